/- Proved: what Text writes of a number Parse reads. Conditions: the number is an int64. -/
import Derived.Test.YtenpnejkgopghaaDoorParVal
set_option linter.unusedVariables false
set_option linter.unusedSectionVars false
set_option linter.unusedSimpArgs false
namespace Go.Proofs.YtenpnejkgopghaaDoor.Form
open Go Go.RowKit

theorem dec_small {u : Nat} (h : u < 10) : Lib.decDigits u = [UInt8.ofNat (48 + u)] := by rw [Lib.decDigits, dif_pos h]
theorem dec_step {u : Nat} (h : ¬ u < 10) : Lib.decDigits u = Lib.decDigits (u / 10) ++ [UInt8.ofNat (48 + u % 10)] := by rw [Lib.decDigits, dif_neg h]
theorem ofNat_dig (d : Nat) (h : d < 10) : (UInt8.ofNat (48 + d)).toNat = 48 + d := by simp [UInt8.toNat_ofNat']; omega
theorem val_append (l m : List UInt8) (acc : Nat) : val acc (l ++ m) = val (val acc l) m := by unfold val; rw [List.foldl_append]

theorem dec_facts : ∀ (n u : Nat), u ≤ n → (Lib.decDigits u).all isDig = true ∧ val 0 (Lib.decDigits u) = u ∧ Lib.decDigits u ≠ [] ∧ (0 < u → (Lib.decDigits u).head? ≠ some 48)
  | n, u, hn => by
    by_cases h : u < 10
    · rw [dec_small h]
      have e := ofNat_dig u h
      refine ⟨?_, ?_, by simp, fun hu => ?_⟩
      · simp only [List.all_cons, List.all_nil, Bool.and_true]; unfold isDig; rw [e]; simp; omega
      · rw [val_cons, e]; show 0 * 10 + (48 + u - 48) = u; omega
      · rw [List.head?_cons]; intro h48
        have := congrArg UInt8.toNat (Option.some.inj h48)
        rw [e] at this
        have e8 : (48 : UInt8).toNat = 48 := rfl
        omega
    · obtain ⟨n, rfl⟩ : ∃ m, n = m + 1 := ⟨n - 1, by omega⟩
      obtain ⟨h1, h2, h3, h4⟩ := dec_facts n (u / 10) (by omega)
      rw [dec_step h]
      have e := ofNat_dig (u % 10) (by omega)
      refine ⟨?_, ?_, by simp, fun _ => ?_⟩
      · rw [List.all_append, h1]; simp only [List.all_cons, List.all_nil, Bool.and_true, Bool.true_and]; unfold isDig; rw [e]; simp; omega
      · rw [val_append, h2, val_cons, e]; show u / 10 * 10 + (48 + u % 10 - 48) = u; omega
      · cases hd : Lib.decDigits (u / 10) with
        | nil => exact absurd hd h3
        | cons c r => have := h4 (by omega); rw [hd] at this; simpa using this

theorem dec_len (u : Nat) (h : u < 100000000000000000000) : (Lib.decDigits u).length ≤ 20 := by
  obtain ⟨h1, h2, h3, h4⟩ := dec_facts u u (Nat.le_refl _)
  by_cases hz : u = 0
  · subst hz; rw [dec_small (by omega)]; simp
  · cases hd : Lib.decDigits u with
    | nil => exact absurd hd h3
    | cons c r =>
      rw [hd] at h1 h2
      have h5 := h4 (by omega)
      rw [hd, List.head?_cons] at h5
      simp only [List.all_cons, Bool.and_eq_true] at h1
      have hdg := dig_num c h1.1
      have h6 : c.toNat ≠ 48 := fun h => h5 (by rw [show c = 48 from UInt8.toNat_inj.1 h])
      have hl := val_lower r (0 * 10 + (c.toNat - 48))
      rw [← val_cons, h2] at hl
      have hm : 1 * 10 ^ r.length ≤ (0 * 10 + (c.toNat - 48)) * 10 ^ r.length := Nat.mul_le_mul_right _ (by omega)
      have : r.length < 20 := by
        apply Nat.lt_of_not_le
        intro hge
        have hp : (10 : Nat) ^ 20 ≤ 10 ^ r.length := Nat.pow_le_pow_right (by omega) hge
        have e20 : (10 : Nat) ^ 20 = 100000000000000000000 := by decide
        omega
      rw [List.length_cons]; omega

theorem itoa_len (n : Int) (h0 : -9223372036854775808 ≤ n) (h1 : n ≤ 9223372036854775807) : (Lib.itoa n).length ≤ 21 := by
  unfold Lib.itoa
  split
  · rw [List.length_cons]; have := dec_len n.natAbs (by omega); omega
  · have := dec_len n.toNat (by omega); omega

theorem back_num (n : Int) (h0 : -9223372036854775808 ≤ n) (h1 : n ≤ 9223372036854775807) : parseS (Lib.itoa n) = (n, 0) := by
  unfold Lib.itoa
  by_cases hn : n < 0
  · rw [if_pos hn]
    obtain ⟨d1, d2, d3, d4⟩ := dec_facts n.natAbs n.natAbs (Nat.le_refl _)
    have hb : body (45 :: Lib.decDigits n.natAbs) = Lib.decDigits n.natAbs := by rw [body_cons, if_pos (by decide)]
    have hf : formB (45 :: Lib.decDigits n.natAbs) = true := by
      unfold formB
      rw [hb, d1]
      have e1 : (Lib.decDigits n.natAbs).isEmpty = false := by simpa using d3
      have e2 : ((Lib.decDigits n.natAbs).head? == some 48) = false := by simpa using d4 (by omega)
      rw [e1, e2]; rfl
    rw [parseS_val _ hf, hb, d2, if_pos (by rw [List.head?_cons]), if_pos (by omega)]
    congr 1; omega
  · rw [if_neg hn]
    obtain ⟨d1, d2, d3, d4⟩ := dec_facts n.toNat n.toNat (Nat.le_refl _)
    have hh : (Lib.decDigits n.toNat).head? ≠ some 45 := by
      cases hd : Lib.decDigits n.toNat with
      | nil => simp
      | cons c r =>
        rw [hd] at d1
        simp only [List.all_cons, Bool.and_eq_true] at d1
        have := dig_num c d1.1
        rw [List.head?_cons]; intro h
        rw [Option.some.inj h] at this
        have e : (45 : UInt8).toNat = 45 := rfl
        omega
    have hb : body (Lib.decDigits n.toNat) = Lib.decDigits n.toNat := by
      cases hd : Lib.decDigits n.toNat with
      | nil => exact absurd hd d3
      | cons c r =>
        rw [body_cons, if_neg]
        intro h
        rw [hd, List.head?_cons] at hh
        exact hh (by rw [show c = 45 from UInt8.toNat_inj.1 h])
    have hf : formB (Lib.decDigits n.toNat) = true := by
      unfold formB
      rw [hb, d1]
      have e1 : (Lib.decDigits n.toNat).isEmpty = false := by simpa using d3
      rw [e1]
      by_cases hz : n.toNat = 0
      · rw [hz, dec_small (by omega)]; rfl
      · have e2 : ((Lib.decDigits n.toNat).head? == some 48) = false := by simpa using d4 (by omega)
        rw [e2]; rfl
    rw [parseS_val _ hf, hb, d2, if_neg hh, if_pos (by omega)]
    congr 1; omega
end Go.Proofs.YtenpnejkgopghaaDoor.Form
