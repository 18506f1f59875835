/- Proved: for every two int64 arguments the call of NumberReckons returns true, and nothing that was there is changed. Conditions: the arguments are in int64's range. -/
import Derived.Test.YtbkojghbgoejcaaRefMul
import Derived.Laws.EntriesVeiled
namespace Go.Proofs.Ytbkojghbgoejcaa.Reck
open Go.RowKit Go.Proofs.Ytbkojghbgoejcaa.QNumberRange Go.Proofs.Ytbkojghbgoejcaa.Pure Go.Proofs.YtbkojghbgoejcaaW.PrintWords Go.Proofs.YtbkojghbgoejcaaW.PrintLast Go.Proofs.YtbkojghbgoejcaaW.PrintMore
set_option linter.unusedVariables false

theorem refMul_fits (a b : Int) (ha : -9223372036854775808 ≤ a ∧ a ≤ 9223372036854775807) (hb : -9223372036854775808 ≤ b ∧ b ≤ 9223372036854775807) (hi lo : Int)
    (e1 : hi = (a.natAbs : Int) * (b.natAbs : Int) / 18446744073709551616) (e2 : lo = (a.natAbs : Int) * (b.natAbs : Int) % 18446744073709551616) :
    number_Mul.f a b = some (RefMul.res (decide (a < 0)) (decide (b < 0)) (decide (0 < hi)) (decide (9223372036854775808 < lo)) (decide (9223372036854775807 < lo)) lo) := by
  rw [mul_fits a b ha hb]
  have hn : ((a.natAbs : Int) * (b.natAbs : Int)) = ((a * b).natAbs : Int) := by rw [Int.natAbs_mul]; rfl
  rw [hn] at e1 e2
  have hs : 0 < a * b → ((a < 0) ↔ (b < 0)) := by
    intro h
    constructor
    · intro ha'
      apply Int.not_le.1; intro hb'
      have := Int.mul_nonpos_of_nonpos_of_nonneg (Int.le_of_lt ha') hb'
      omega
    · intro hb'
      apply Int.not_le.1; intro ha'
      have := Int.mul_nonpos_of_nonneg_of_nonpos ha' (Int.le_of_lt hb')
      omega
  have hs2 : a * b < 0 → ¬ ((a < 0) ↔ (b < 0)) := by
    intro h hi
    by_cases ha' : a < 0
    · have := Int.mul_pos_of_neg_of_neg ha' (hi.1 ha'); omega
    · have := Int.mul_nonneg (Int.not_lt.1 ha') (Int.not_lt.1 (fun h => ha' (hi.2 h))); omega
  have hm : -85070591730234615865843651857942052864 ≤ a * b ∧ a * b ≤ 85070591730234615865843651857942052864 := by
    have h1 : a.natAbs * b.natAbs ≤ 9223372036854775808 * 9223372036854775808 := Nat.mul_le_mul (by omega) (by omega)
    have h2 : (a * b).natAbs = a.natAbs * b.natAbs := Int.natAbs_mul a b
    omega
  generalize hq : a * b = q at *
  have ew (x : Int) : IntKind.u64.wrap x = x % 18446744073709551616 := rfl
  unfold RefMul.res
  by_cases hsg : (a < 0) ↔ (b < 0)
  · have hd : (decide (a < 0) != decide (b < 0)) = false := by
      rw [bne_eq_false_iff_eq, decide_eq_decide]; exact hsg
    have hq0 : 0 ≤ q := Int.not_lt.1 (fun h => hs2 h hsg)
    rw [hd]
    simp only [decide_eq_true_eq, Bool.false_eq_true, if_false]
    by_cases hr : q ≤ 9223372036854775807
    · rw [if_pos (by omega), if_neg (by omega), if_neg (by omega), wrap_in (by omega) (by omega)]
      congr 2; omega
    · rw [if_neg (by omega)]
      split
      · rfl
      · rw [if_pos (by omega)]
  · have hd : (decide (a < 0) != decide (b < 0)) = true := by
      rw [bne_iff_ne, ne_eq, decide_eq_decide]; exact hsg
    have hq0 : q ≤ 0 := Int.not_lt.1 (fun h => hsg (hs h))
    rw [hd]
    simp only [decide_eq_true_eq, if_true]
    by_cases hr : -9223372036854775808 ≤ q
    · rw [if_pos (by omega), if_neg (by omega), if_neg (by omega), ew]
      congr 2; unfold wrap64; omega
    · rw [if_neg (by omega)]
      split
      · rfl
      · rw [if_pos (by omega)]

/-- What both answer. -/
structure Both (f : Option (Int × Int)) (r : Int × Int) : Prop where
  out : f = some r

theorem abs_eq (a : Int) (h1 : -9223372036854775808 ≤ a) (h2 : a ≤ 9223372036854775807) : elenchusref1_abs.f a = some (a.natAbs : Int) := size_eq a h1 h2

theorem refAdd (a b : Int) : elenchusref1_Add.f a b = number_Add.f a b := rfl
theorem refSub (a b : Int) : elenchusref1_Sub.f a b = number_Sub.f a b := rfl
theorem refRem (a b : Int) : elenchusref1_Rem.f a b = number_Rem.f a b := rfl
theorem refMod (a b : Int) : elenchusref1_Mod.f a b = number_Mod.f a b := by
  unfold elenchusref1_Mod.f number_Mod.f elenchusref1_Rem.f number_Rem.f
  by_cases h : b = 0
  · simp [h]
  · by_cases h1 : b = -1
    · simp [h1]
    · simp [h, h1]
theorem refDiv (a b : Int) (ha : -9223372036854775808 ≤ a ∧ a ≤ 9223372036854775807) : elenchusref1_Div.f a b = number_Div.f a b := by
  unfold elenchusref1_Div.f number_Div.f
  by_cases h : b = 0
  · rw [if_pos h, if_pos h]
  · rw [if_neg h, if_neg h]
    by_cases h1 : b = -1
    · rw [if_pos h1, if_pos h1, refSub, sub_fits _ _ (by omega) ha, h1]
      by_cases h2 : a = -9223372036854775808
      · rw [if_pos h2, if_neg (by omega)]; rfl
      · rw [if_neg h2, if_pos (by omega)]
        have e : a.tdiv (-1) = -a := by rw [Int.tdiv_neg, Int.tdiv_one]
        rw [e, wrap_in (by omega) (by omega)]
        simp only [Option.bind_some]; congr 2; omega
    · rw [if_neg h1, if_neg h1]
      split <;> rfl

set_option linter.unusedVariables false
theorem add_some (a b : Int) : ∃ p q, number_Add.f a b = some (p, q) := by unfold number_Add.f; (repeat' split) <;> exact ⟨_, _, rfl⟩
theorem sub_some (a b : Int) : ∃ p q, number_Sub.f a b = some (p, q) := by unfold number_Sub.f; (repeat' split) <;> exact ⟨_, _, rfl⟩
theorem div_some (a b : Int) : ∃ p q, number_Div.f a b = some (p, q) := by unfold number_Div.f; (repeat' split) <;> exact ⟨_, _, rfl⟩
theorem rem_some (a b : Int) : ∃ p q, number_Rem.f a b = some (p, q) := by unfold number_Rem.f; (repeat' split) <;> exact ⟨_, _, rfl⟩
theorem mod_some (a b : Int) : ∃ p q, number_Mod.f a b = some (p, q) := by
  obtain ⟨p, q, h⟩ := rem_some a b
  unfold number_Mod.f; rw [h]; simp only [Option.bind_some]; (repeat' split) <;> exact ⟨_, _, rfl⟩

theorem i0 (w : World) : (Instr.index 35 (.agg #[.func (.func 17) #[] #[], .func (.func 18) #[] #[], .func (.func 19) #[] #[], .func (.func 20) #[] #[], .func (.func 21) #[] #[], .func (.func 22) #[] #[], .func (.func 23) #[] #[], .func (.func 24) #[] #[], .func (.func 25) #[] #[], .func (.func 26) #[] #[], .func (.func 27) #[] #[], .func (.func 28) #[] #[]]) (.int .i64 0)).run Try.prog w = .ok (.agg #[.func (.func 17) #[] #[], .func (.func 18) #[] #[]]) w := by kernel_rfl
theorem i1 (w : World) : (Instr.index 35 (.agg #[.func (.func 17) #[] #[], .func (.func 18) #[] #[], .func (.func 19) #[] #[], .func (.func 20) #[] #[], .func (.func 21) #[] #[], .func (.func 22) #[] #[], .func (.func 23) #[] #[], .func (.func 24) #[] #[], .func (.func 25) #[] #[], .func (.func 26) #[] #[], .func (.func 27) #[] #[], .func (.func 28) #[] #[]]) (.int .i64 1)).run Try.prog w = .ok (.agg #[.func (.func 19) #[] #[], .func (.func 20) #[] #[]]) w := by kernel_rfl
theorem i2 (w : World) : (Instr.index 35 (.agg #[.func (.func 17) #[] #[], .func (.func 18) #[] #[], .func (.func 19) #[] #[], .func (.func 20) #[] #[], .func (.func 21) #[] #[], .func (.func 22) #[] #[], .func (.func 23) #[] #[], .func (.func 24) #[] #[], .func (.func 25) #[] #[], .func (.func 26) #[] #[], .func (.func 27) #[] #[], .func (.func 28) #[] #[]]) (.int .i64 2)).run Try.prog w = .ok (.agg #[.func (.func 21) #[] #[], .func (.func 22) #[] #[]]) w := by kernel_rfl
theorem i3 (w : World) : (Instr.index 35 (.agg #[.func (.func 17) #[] #[], .func (.func 18) #[] #[], .func (.func 19) #[] #[], .func (.func 20) #[] #[], .func (.func 21) #[] #[], .func (.func 22) #[] #[], .func (.func 23) #[] #[], .func (.func 24) #[] #[], .func (.func 25) #[] #[], .func (.func 26) #[] #[], .func (.func 27) #[] #[], .func (.func 28) #[] #[]]) (.int .i64 3)).run Try.prog w = .ok (.agg #[.func (.func 23) #[] #[], .func (.func 24) #[] #[]]) w := by kernel_rfl
theorem i4 (w : World) : (Instr.index 35 (.agg #[.func (.func 17) #[] #[], .func (.func 18) #[] #[], .func (.func 19) #[] #[], .func (.func 20) #[] #[], .func (.func 21) #[] #[], .func (.func 22) #[] #[], .func (.func 23) #[] #[], .func (.func 24) #[] #[], .func (.func 25) #[] #[], .func (.func 26) #[] #[], .func (.func 27) #[] #[], .func (.func 28) #[] #[]]) (.int .i64 4)).run Try.prog w = .ok (.agg #[.func (.func 25) #[] #[], .func (.func 26) #[] #[]]) w := by kernel_rfl
theorem i5 (w : World) : (Instr.index 35 (.agg #[.func (.func 17) #[] #[], .func (.func 18) #[] #[], .func (.func 19) #[] #[], .func (.func 20) #[] #[], .func (.func 21) #[] #[], .func (.func 22) #[] #[], .func (.func 23) #[] #[], .func (.func 24) #[] #[], .func (.func 25) #[] #[], .func (.func 26) #[] #[], .func (.func 27) #[] #[], .func (.func 28) #[] #[]]) (.int .i64 5)).run Try.prog w = .ok (.agg #[.func (.func 27) #[] #[], .func (.func 28) #[] #[]]) w := by kernel_rfl

set_option maxHeartbeats 1600000 in
theorem reck_walk (a b : Int) (ha : -9223372036854775808 ≤ a ∧ a ≤ 9223372036854775807) (hb : -9223372036854775808 ≤ b ∧ b ≤ 9223372036854775807)
    (w : World) : Calls Try.prog 6 #[.int .i64 a, .int .i64 b] w fun e w' => e = .returned (.bool true) ∧ Below w.heap.size w w' := by
  obtain ⟨p1, q1, f1⟩ := add_some a b
  obtain ⟨p2, q2, f2⟩ := sub_some a b
  obtain ⟨p4, q4, f4⟩ := div_some a b
  obtain ⟨p5, q5, f5⟩ := mod_some a b
  obtain ⟨p6, q6, f6⟩ := rem_some a b
  obtain ⟨hi, lo, hlo⟩ : ∃ hi lo, bits_Mul64.f a.natAbs b.natAbs = some (hi, lo) ∧ hi = (a.natAbs : Int) * (b.natAbs : Int) / 18446744073709551616 ∧ lo = (a.natAbs : Int) * (b.natAbs : Int) % 18446744073709551616 :=
    ⟨_, _, mul64_eq _ _ (by omega) (by omega), rfl, rfl⟩
  have f3 := refMul_fits a b ha hb hi lo hlo.2.1 hlo.2.2
  obtain ⟨p3, q3, hp⟩ : ∃ p3 q3, RefMul.res (decide (a < 0)) (decide (b < 0)) (decide (0 < hi)) (decide (9223372036854775808 < lo)) (decide (9223372036854775807 < lo)) lo = (p3, q3) := ⟨_, _, rfl⟩
  rw [hp] at f3
  have g3 : ∀ w : World, Calls Try.prog 22 #[.int .i64 a, .int .i64 b] w fun e w' => e = .returned (.tuple #[.int .i64 p3, .int .i64 q3]) ∧ Drawn0 w w' := by
    intro w
    have h := RefMul.walk a b _ _ hi lo w ⟨abs_eq a ha.1 ha.2⟩ ⟨abs_eq b hb.1 hb.2⟩ ⟨hlo.1⟩
    rw [hp] at h
    exact h
  have G1 := Aside0.mk (refAdd a b ▸ f1)
  have G2 := Aside0.mk (refSub a b ▸ f2)
  have G3 := Aside0.mk g3
  have G4 := Aside0.mk (refDiv a b ha ▸ f4)
  have G5 := Aside0.mk (refMod a b ▸ f5)
  have G6 := Aside0.mk (refRem a b ▸ f6)
  have F1 := Aside0.mk f1
  have F2 := Aside0.mk f2
  have F3 := Aside0.mk f3
  have F4 := Aside0.mk f4
  have F5 := Aside0.mk f5
  have F6 := Aside0.mk f6
  clear f1 f2 f3 f4 f5 f6 hlo hp g3 ha hb
  go_enter Try.func6, Try.ntmps6
  go_wp2_with fail
  have h0 := i0
  have h1 := i1
  have h2 := i2
  have h3 := i3
  have h4 := i4
  have h5 := i5
  refine wp_loop_rounds 7 ?_
  rw [rounds_succ]
  go_wp2_with (first | (go_at_call 17; (with_reducible refine (number_Add.calls _ _ _ _ _ F1.out).mono ?_); rintro e w' ⟨rfl, ⟨n, rfl⟩⟩) | (go_at_call 18; (with_reducible refine (elenchusref1_Add.calls _ _ _ _ _ G1.out).mono ?_); rintro e w' ⟨rfl, ⟨n, rfl⟩⟩) | (go_at_call 19; (with_reducible refine (number_Sub.calls _ _ _ _ _ F2.out).mono ?_); rintro e w' ⟨rfl, ⟨n, rfl⟩⟩) | (go_at_call 20; (with_reducible refine (elenchusref1_Sub.calls _ _ _ _ _ G2.out).mono ?_); rintro e w' ⟨rfl, ⟨n, rfl⟩⟩) | (go_at_call 21; (with_reducible refine (number_Mul.calls _ _ _ _ _ F3.out).mono ?_); rintro e w' ⟨rfl, ⟨n, rfl⟩⟩) | (go_at_call 22; (with_reducible refine (G3.out _).mono ?_); rintro e w' ⟨rfl, ⟨n, rfl⟩⟩) | (go_at_call 23; (with_reducible refine (number_Div.calls _ _ _ _ _ F4.out).mono ?_); rintro e w' ⟨rfl, ⟨n, rfl⟩⟩) | (go_at_call 24; (with_reducible refine (elenchusref1_Div.calls _ _ _ _ _ G4.out).mono ?_); rintro e w' ⟨rfl, ⟨n, rfl⟩⟩) | (go_at_call 25; (with_reducible refine (number_Mod.calls _ _ _ _ _ F5.out).mono ?_); rintro e w' ⟨rfl, ⟨n, rfl⟩⟩) | (go_at_call 26; (with_reducible refine (elenchusref1_Mod.calls _ _ _ _ _ G5.out).mono ?_); rintro e w' ⟨rfl, ⟨n, rfl⟩⟩) | (go_at_call 27; (with_reducible refine (number_Rem.calls _ _ _ _ _ F6.out).mono ?_); rintro e w' ⟨rfl, ⟨n, rfl⟩⟩) | (go_at_call 28; (with_reducible refine (elenchusref1_Rem.calls _ _ _ _ _ G6.out).mono ?_); rintro e w' ⟨rfl, ⟨n, rfl⟩⟩) | (go_at_call 13; (with_reducible refine (elenchuslaw1_awake.calls _ _ awake_true).mono ?_); rintro e w' ⟨rfl, ⟨n, rfl⟩⟩))
  rw [rounds_succ]
  go_wp2_with (first | (go_at_call 17; (with_reducible refine (number_Add.calls _ _ _ _ _ F1.out).mono ?_); rintro e w' ⟨rfl, ⟨n, rfl⟩⟩) | (go_at_call 18; (with_reducible refine (elenchusref1_Add.calls _ _ _ _ _ G1.out).mono ?_); rintro e w' ⟨rfl, ⟨n, rfl⟩⟩) | (go_at_call 19; (with_reducible refine (number_Sub.calls _ _ _ _ _ F2.out).mono ?_); rintro e w' ⟨rfl, ⟨n, rfl⟩⟩) | (go_at_call 20; (with_reducible refine (elenchusref1_Sub.calls _ _ _ _ _ G2.out).mono ?_); rintro e w' ⟨rfl, ⟨n, rfl⟩⟩) | (go_at_call 21; (with_reducible refine (number_Mul.calls _ _ _ _ _ F3.out).mono ?_); rintro e w' ⟨rfl, ⟨n, rfl⟩⟩) | (go_at_call 22; (with_reducible refine (G3.out _).mono ?_); rintro e w' ⟨rfl, ⟨n, rfl⟩⟩) | (go_at_call 23; (with_reducible refine (number_Div.calls _ _ _ _ _ F4.out).mono ?_); rintro e w' ⟨rfl, ⟨n, rfl⟩⟩) | (go_at_call 24; (with_reducible refine (elenchusref1_Div.calls _ _ _ _ _ G4.out).mono ?_); rintro e w' ⟨rfl, ⟨n, rfl⟩⟩) | (go_at_call 25; (with_reducible refine (number_Mod.calls _ _ _ _ _ F5.out).mono ?_); rintro e w' ⟨rfl, ⟨n, rfl⟩⟩) | (go_at_call 26; (with_reducible refine (elenchusref1_Mod.calls _ _ _ _ _ G5.out).mono ?_); rintro e w' ⟨rfl, ⟨n, rfl⟩⟩) | (go_at_call 27; (with_reducible refine (number_Rem.calls _ _ _ _ _ F6.out).mono ?_); rintro e w' ⟨rfl, ⟨n, rfl⟩⟩) | (go_at_call 28; (with_reducible refine (elenchusref1_Rem.calls _ _ _ _ _ G6.out).mono ?_); rintro e w' ⟨rfl, ⟨n, rfl⟩⟩) | (go_at_call 13; (with_reducible refine (elenchuslaw1_awake.calls _ _ awake_true).mono ?_); rintro e w' ⟨rfl, ⟨n, rfl⟩⟩))
  rw [rounds_succ]
  go_wp2_with (first | (go_at_call 17; (with_reducible refine (number_Add.calls _ _ _ _ _ F1.out).mono ?_); rintro e w' ⟨rfl, ⟨n, rfl⟩⟩) | (go_at_call 18; (with_reducible refine (elenchusref1_Add.calls _ _ _ _ _ G1.out).mono ?_); rintro e w' ⟨rfl, ⟨n, rfl⟩⟩) | (go_at_call 19; (with_reducible refine (number_Sub.calls _ _ _ _ _ F2.out).mono ?_); rintro e w' ⟨rfl, ⟨n, rfl⟩⟩) | (go_at_call 20; (with_reducible refine (elenchusref1_Sub.calls _ _ _ _ _ G2.out).mono ?_); rintro e w' ⟨rfl, ⟨n, rfl⟩⟩) | (go_at_call 21; (with_reducible refine (number_Mul.calls _ _ _ _ _ F3.out).mono ?_); rintro e w' ⟨rfl, ⟨n, rfl⟩⟩) | (go_at_call 22; (with_reducible refine (G3.out _).mono ?_); rintro e w' ⟨rfl, ⟨n, rfl⟩⟩) | (go_at_call 23; (with_reducible refine (number_Div.calls _ _ _ _ _ F4.out).mono ?_); rintro e w' ⟨rfl, ⟨n, rfl⟩⟩) | (go_at_call 24; (with_reducible refine (elenchusref1_Div.calls _ _ _ _ _ G4.out).mono ?_); rintro e w' ⟨rfl, ⟨n, rfl⟩⟩) | (go_at_call 25; (with_reducible refine (number_Mod.calls _ _ _ _ _ F5.out).mono ?_); rintro e w' ⟨rfl, ⟨n, rfl⟩⟩) | (go_at_call 26; (with_reducible refine (elenchusref1_Mod.calls _ _ _ _ _ G5.out).mono ?_); rintro e w' ⟨rfl, ⟨n, rfl⟩⟩) | (go_at_call 27; (with_reducible refine (number_Rem.calls _ _ _ _ _ F6.out).mono ?_); rintro e w' ⟨rfl, ⟨n, rfl⟩⟩) | (go_at_call 28; (with_reducible refine (elenchusref1_Rem.calls _ _ _ _ _ G6.out).mono ?_); rintro e w' ⟨rfl, ⟨n, rfl⟩⟩) | (go_at_call 13; (with_reducible refine (elenchuslaw1_awake.calls _ _ awake_true).mono ?_); rintro e w' ⟨rfl, ⟨n, rfl⟩⟩))
  rw [rounds_succ]
  go_wp2_with (first | (go_at_call 17; (with_reducible refine (number_Add.calls _ _ _ _ _ F1.out).mono ?_); rintro e w' ⟨rfl, ⟨n, rfl⟩⟩) | (go_at_call 18; (with_reducible refine (elenchusref1_Add.calls _ _ _ _ _ G1.out).mono ?_); rintro e w' ⟨rfl, ⟨n, rfl⟩⟩) | (go_at_call 19; (with_reducible refine (number_Sub.calls _ _ _ _ _ F2.out).mono ?_); rintro e w' ⟨rfl, ⟨n, rfl⟩⟩) | (go_at_call 20; (with_reducible refine (elenchusref1_Sub.calls _ _ _ _ _ G2.out).mono ?_); rintro e w' ⟨rfl, ⟨n, rfl⟩⟩) | (go_at_call 21; (with_reducible refine (number_Mul.calls _ _ _ _ _ F3.out).mono ?_); rintro e w' ⟨rfl, ⟨n, rfl⟩⟩) | (go_at_call 22; (with_reducible refine (G3.out _).mono ?_); rintro e w' ⟨rfl, ⟨n, rfl⟩⟩) | (go_at_call 23; (with_reducible refine (number_Div.calls _ _ _ _ _ F4.out).mono ?_); rintro e w' ⟨rfl, ⟨n, rfl⟩⟩) | (go_at_call 24; (with_reducible refine (elenchusref1_Div.calls _ _ _ _ _ G4.out).mono ?_); rintro e w' ⟨rfl, ⟨n, rfl⟩⟩) | (go_at_call 25; (with_reducible refine (number_Mod.calls _ _ _ _ _ F5.out).mono ?_); rintro e w' ⟨rfl, ⟨n, rfl⟩⟩) | (go_at_call 26; (with_reducible refine (elenchusref1_Mod.calls _ _ _ _ _ G5.out).mono ?_); rintro e w' ⟨rfl, ⟨n, rfl⟩⟩) | (go_at_call 27; (with_reducible refine (number_Rem.calls _ _ _ _ _ F6.out).mono ?_); rintro e w' ⟨rfl, ⟨n, rfl⟩⟩) | (go_at_call 28; (with_reducible refine (elenchusref1_Rem.calls _ _ _ _ _ G6.out).mono ?_); rintro e w' ⟨rfl, ⟨n, rfl⟩⟩) | (go_at_call 13; (with_reducible refine (elenchuslaw1_awake.calls _ _ awake_true).mono ?_); rintro e w' ⟨rfl, ⟨n, rfl⟩⟩))
  rw [rounds_succ]
  go_wp2_with (first | (go_at_call 17; (with_reducible refine (number_Add.calls _ _ _ _ _ F1.out).mono ?_); rintro e w' ⟨rfl, ⟨n, rfl⟩⟩) | (go_at_call 18; (with_reducible refine (elenchusref1_Add.calls _ _ _ _ _ G1.out).mono ?_); rintro e w' ⟨rfl, ⟨n, rfl⟩⟩) | (go_at_call 19; (with_reducible refine (number_Sub.calls _ _ _ _ _ F2.out).mono ?_); rintro e w' ⟨rfl, ⟨n, rfl⟩⟩) | (go_at_call 20; (with_reducible refine (elenchusref1_Sub.calls _ _ _ _ _ G2.out).mono ?_); rintro e w' ⟨rfl, ⟨n, rfl⟩⟩) | (go_at_call 21; (with_reducible refine (number_Mul.calls _ _ _ _ _ F3.out).mono ?_); rintro e w' ⟨rfl, ⟨n, rfl⟩⟩) | (go_at_call 22; (with_reducible refine (G3.out _).mono ?_); rintro e w' ⟨rfl, ⟨n, rfl⟩⟩) | (go_at_call 23; (with_reducible refine (number_Div.calls _ _ _ _ _ F4.out).mono ?_); rintro e w' ⟨rfl, ⟨n, rfl⟩⟩) | (go_at_call 24; (with_reducible refine (elenchusref1_Div.calls _ _ _ _ _ G4.out).mono ?_); rintro e w' ⟨rfl, ⟨n, rfl⟩⟩) | (go_at_call 25; (with_reducible refine (number_Mod.calls _ _ _ _ _ F5.out).mono ?_); rintro e w' ⟨rfl, ⟨n, rfl⟩⟩) | (go_at_call 26; (with_reducible refine (elenchusref1_Mod.calls _ _ _ _ _ G5.out).mono ?_); rintro e w' ⟨rfl, ⟨n, rfl⟩⟩) | (go_at_call 27; (with_reducible refine (number_Rem.calls _ _ _ _ _ F6.out).mono ?_); rintro e w' ⟨rfl, ⟨n, rfl⟩⟩) | (go_at_call 28; (with_reducible refine (elenchusref1_Rem.calls _ _ _ _ _ G6.out).mono ?_); rintro e w' ⟨rfl, ⟨n, rfl⟩⟩) | (go_at_call 13; (with_reducible refine (elenchuslaw1_awake.calls _ _ awake_true).mono ?_); rintro e w' ⟨rfl, ⟨n, rfl⟩⟩))
  rw [rounds_succ]
  go_wp2_with (first | (go_at_call 17; (with_reducible refine (number_Add.calls _ _ _ _ _ F1.out).mono ?_); rintro e w' ⟨rfl, ⟨n, rfl⟩⟩) | (go_at_call 18; (with_reducible refine (elenchusref1_Add.calls _ _ _ _ _ G1.out).mono ?_); rintro e w' ⟨rfl, ⟨n, rfl⟩⟩) | (go_at_call 19; (with_reducible refine (number_Sub.calls _ _ _ _ _ F2.out).mono ?_); rintro e w' ⟨rfl, ⟨n, rfl⟩⟩) | (go_at_call 20; (with_reducible refine (elenchusref1_Sub.calls _ _ _ _ _ G2.out).mono ?_); rintro e w' ⟨rfl, ⟨n, rfl⟩⟩) | (go_at_call 21; (with_reducible refine (number_Mul.calls _ _ _ _ _ F3.out).mono ?_); rintro e w' ⟨rfl, ⟨n, rfl⟩⟩) | (go_at_call 22; (with_reducible refine (G3.out _).mono ?_); rintro e w' ⟨rfl, ⟨n, rfl⟩⟩) | (go_at_call 23; (with_reducible refine (number_Div.calls _ _ _ _ _ F4.out).mono ?_); rintro e w' ⟨rfl, ⟨n, rfl⟩⟩) | (go_at_call 24; (with_reducible refine (elenchusref1_Div.calls _ _ _ _ _ G4.out).mono ?_); rintro e w' ⟨rfl, ⟨n, rfl⟩⟩) | (go_at_call 25; (with_reducible refine (number_Mod.calls _ _ _ _ _ F5.out).mono ?_); rintro e w' ⟨rfl, ⟨n, rfl⟩⟩) | (go_at_call 26; (with_reducible refine (elenchusref1_Mod.calls _ _ _ _ _ G5.out).mono ?_); rintro e w' ⟨rfl, ⟨n, rfl⟩⟩) | (go_at_call 27; (with_reducible refine (number_Rem.calls _ _ _ _ _ F6.out).mono ?_); rintro e w' ⟨rfl, ⟨n, rfl⟩⟩) | (go_at_call 28; (with_reducible refine (elenchusref1_Rem.calls _ _ _ _ _ G6.out).mono ?_); rintro e w' ⟨rfl, ⟨n, rfl⟩⟩) | (go_at_call 13; (with_reducible refine (elenchuslaw1_awake.calls _ _ awake_true).mono ?_); rintro e w' ⟨rfl, ⟨n, rfl⟩⟩))
  rw [rounds_succ]
  go_wp2_with (first | (go_at_call 17; (with_reducible refine (number_Add.calls _ _ _ _ _ F1.out).mono ?_); rintro e w' ⟨rfl, ⟨n, rfl⟩⟩) | (go_at_call 18; (with_reducible refine (elenchusref1_Add.calls _ _ _ _ _ G1.out).mono ?_); rintro e w' ⟨rfl, ⟨n, rfl⟩⟩) | (go_at_call 19; (with_reducible refine (number_Sub.calls _ _ _ _ _ F2.out).mono ?_); rintro e w' ⟨rfl, ⟨n, rfl⟩⟩) | (go_at_call 20; (with_reducible refine (elenchusref1_Sub.calls _ _ _ _ _ G2.out).mono ?_); rintro e w' ⟨rfl, ⟨n, rfl⟩⟩) | (go_at_call 21; (with_reducible refine (number_Mul.calls _ _ _ _ _ F3.out).mono ?_); rintro e w' ⟨rfl, ⟨n, rfl⟩⟩) | (go_at_call 22; (with_reducible refine (G3.out _).mono ?_); rintro e w' ⟨rfl, ⟨n, rfl⟩⟩) | (go_at_call 23; (with_reducible refine (number_Div.calls _ _ _ _ _ F4.out).mono ?_); rintro e w' ⟨rfl, ⟨n, rfl⟩⟩) | (go_at_call 24; (with_reducible refine (elenchusref1_Div.calls _ _ _ _ _ G4.out).mono ?_); rintro e w' ⟨rfl, ⟨n, rfl⟩⟩) | (go_at_call 25; (with_reducible refine (number_Mod.calls _ _ _ _ _ F5.out).mono ?_); rintro e w' ⟨rfl, ⟨n, rfl⟩⟩) | (go_at_call 26; (with_reducible refine (elenchusref1_Mod.calls _ _ _ _ _ G5.out).mono ?_); rintro e w' ⟨rfl, ⟨n, rfl⟩⟩) | (go_at_call 27; (with_reducible refine (number_Rem.calls _ _ _ _ _ F6.out).mono ?_); rintro e w' ⟨rfl, ⟨n, rfl⟩⟩) | (go_at_call 28; (with_reducible refine (elenchusref1_Rem.calls _ _ _ _ _ G6.out).mono ?_); rintro e w' ⟨rfl, ⟨n, rfl⟩⟩) | (go_at_call 13; (with_reducible refine (elenchuslaw1_awake.calls _ _ awake_true).mono ?_); rintro e w' ⟨rfl, ⟨n, rfl⟩⟩))
  go_ret
  exact ⟨rfl, by repeat (first | exact Below.refl _ _ | apply below_alloc | apply pw_below_drewN)⟩
theorem walk (a b : Int) (w : World) (wa : (Lit.int .i64 a).wf = true) (wb : (Lit.int .i64 b).wf = true) :
    Calls Try.prog 6 #[.int .i64 a, .int .i64 b] w fun e w' => e = .returned (.bool true) ∧ Below w.heap.size w w' :=
  reck_walk a b (i64_range wa) (i64_range wb) w
end Go.Proofs.Ytbkojghbgoejcaa.Reck
