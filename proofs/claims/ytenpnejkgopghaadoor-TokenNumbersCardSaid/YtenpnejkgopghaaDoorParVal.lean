/- Proved: elenchusref1.Parse answers what number.Parse answers. Conditions: the text is no longer than the reach. -/
import Derived.Test.YtenpnejkgopghaaDoorParse
set_option linter.unusedVariables false
set_option linter.unusedSectionVars false
set_option linter.unusedSimpArgs false
namespace Go.Proofs.YtenpnejkgopghaaDoor.Form
open Go Go.RowKit

/-- The number of decimal digits, the ones ahead being worth acc. -/
def val (acc : Nat) (l : List UInt8) : Nat := l.foldl (fun a c => a * 10 + (c.toNat - 48)) acc
theorem val_cons (acc : Nat) (c : UInt8) (l : List UInt8) : val acc (c :: l) = val (acc * 10 + (c.toNat - 48)) l := by unfold val; rw [List.foldl_cons]
theorem val_lower : ∀ (l : List UInt8) (acc : Nat), acc * 10 ^ l.length ≤ val acc l
  | [], acc => by simp [val]
  | c :: l, acc => by
    rw [val_cons, List.length_cons, Nat.pow_succ]
    refine Nat.le_trans ?_ (val_lower l _)
    rw [Nat.add_mul, Nat.mul_comm (10 ^ l.length) 10, ← Nat.mul_assoc]
    exact Nat.le_add_right _ _
theorem val_upper : ∀ (l : List UInt8) (acc : Nat), l.all isDig = true → val acc l < (acc + 1) * 10 ^ l.length
  | [], acc, _ => by simp [val]
  | c :: l, acc, h => by
    simp only [List.all_cons, Bool.and_eq_true] at h
    have hd := dig_num c h.1
    rw [val_cons, List.length_cons, Nat.pow_succ]
    refine Nat.lt_of_lt_of_le (val_upper l _ h.2) ?_
    rw [Nat.mul_comm (10 ^ l.length) 10, ← Nat.mul_assoc]
    exact Nat.mul_le_mul_right _ (by omega)
theorem uint_val : ∀ (l : List UInt8) (acc : Nat), l.all isDig = true → acc ≤ 18446744073709551615 → Lib.parseUintM 18446744073709551615 acc l = if val acc l ≤ 18446744073709551615 then .ok (val acc l) else .range := by
  intro l
  induction l with
  | nil =>
    intro acc _ h
    unfold Lib.parseUintM
    have e : val acc [] = acc := rfl
    rw [e, if_pos h]
  | cons c l ih =>
    intro acc h ha
    simp only [List.all_cons, Bool.and_eq_true] at h
    have hd := dig_num c h.1
    unfold Lib.parseUintM
    rw [if_pos hd, val_cons]
    have hl := val_lower l (acc * 10 + (c.toNat - 48))
    have hp : 1 ≤ 10 ^ l.length := Nat.one_le_pow _ _ (by omega)
    have hm : (acc * 10 + (c.toNat - 48)) ≤ (acc * 10 + (c.toNat - 48)) * 10 ^ l.length := Nat.le_mul_of_pos_right _ hp
    split
    · rw [if_neg (by omega)]
    · split
      · rw [if_neg (by omega)]
      · exact ih _ h.2 (by omega)

/-- What Parse answers of a text that is a decimal, by its digits. -/
theorem parseS_val (l : List UInt8) (h : formB l = true) : parseS l = if l.head? = some 45 then (if val 0 (body l) ≤ 9223372036854775808 then (-(val 0 (body l) : Int), 0) else (0, 6)) else (if val 0 (body l) < 9223372036854775808 then ((val 0 (body l) : Int), 0) else (0, 6)) := by
  have h2 := form_body l h
  have e : Lib.parseUintB 64 (body l) = Lib.parseUintM 18446744073709551615 0 (body l) := by unfold Lib.parseUintB; rw [if_neg h2.2]
  have hv := uint_val (body l) 0 h2.1 (by omega)
  unfold parseS
  rw [if_pos h]
  generalize val 0 (body l) = v at *
  have p : (2 : Nat) ^ 63 = 9223372036854775808 := by decide
  by_cases hr : v ≤ 18446744073709551615
  · rw [if_pos hr] at hv
    rw [int_ok l h v (e.trans hv), p]
    by_cases hh : l.head? = some 45
    · simp only [hh, not_true, false_and, if_false, true_and, if_true]
      by_cases hw : v ≤ 9223372036854775808
      · rw [if_neg (by omega), if_pos hw]
      · rw [if_pos (by omega), if_neg hw]
    · simp only [hh, not_false_eq_true, true_and, false_and, if_false]
      by_cases hw : v < 9223372036854775808
      · rw [if_neg (by omega), if_pos hw]
      · rw [if_pos (by omega), if_neg hw]
  · rw [if_neg hr] at hv
    rw [int_range l h (e.trans hv)]
    by_cases hh : l.head? = some 45
    · rw [if_pos hh, if_neg (by omega)]
    · rw [if_neg hh, if_neg (by omega)]
end Go.Proofs.YtenpnejkgopghaaDoor.Form
