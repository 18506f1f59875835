/- Proved: what TextC writes of two words ParseC reads. Conditions: both are words of 64 bits. -/
import Derived.Test.YtenpnejkgopghaaDoorParseCh
import Derived.Test.YtenpnejkgopghaaDoorHexP
set_option linter.unusedVariables false
set_option linter.unusedSectionVars false
set_option linter.unusedSimpArgs false
namespace Go.Proofs.YtenpnejkgopghaaDoor.ParseC
open Go Go.RowKit Go.Proofs.YtenpnejkgopghaaDoor.Put

def by8 (xs : List Int) : List UInt8 := xs.map fun n => UInt8.ofNat n.toNat
theorem str_list (xs : List Int) : (strOfNums xs).data.toList = by8 xs := rfl
theorem hx_hexd (d : Nat) (h : d < 16) : hx (UInt8.ofNat (hexd d).toNat) = some d := by
  have : ∀ m : Fin 16, hx (UInt8.ofNat (hexd m.val).toNat) = some m.val := by decide
  exact this ⟨d, h⟩

theorem word_hexs (x : Int) (hx0 : 0 ≤ x ∧ x < 18446744073709551616) (rest : List UInt8) : ∀ j, j ≤ 16 → wordL 0 (by8 (hexs x j) ++ rest) = wordL (x.toNat / 16 ^ (16 - j)) rest := by
  intro j
  induction j generalizing rest with
  | zero =>
    intro _
    have p : (16 : Nat) ^ 16 = 18446744073709551616 := by decide
    rw [Nat.sub_zero, p, Nat.div_eq_of_lt (by omega)]
    rfl
  | succ j ih =>
    intro hj
    have e : by8 (hexs x (j + 1)) ++ rest = by8 (hexs x j) ++ (UInt8.ofNat (hexd (x.toNat / 16 ^ (15 - j) % 16)).toNat :: rest) := by
      rw [hexs_succ]; simp [by8]
    rw [e, ih _ (by omega), wordL_some (hx_hexd _ (Nat.mod_lt _ (by omega)))]
    congr 1
    have e1 : 16 ^ (16 - j) = 16 ^ (15 - j) * 16 := by rw [← Nat.pow_succ]; congr 1; omega
    rw [e1, ← Nat.div_div_eq_div_mul, show 16 - (j + 1) = 15 - j by omega]
    have le : x.toNat / 16 ^ (15 - j) ≤ x.toNat := Nat.div_le_self _ _
    generalize x.toNat / 16 ^ (15 - j) = y at *
    omega

theorem parse_text (x y : Int) (hx0 : 0 ≤ x ∧ x < 18446744073709551616) (hy0 : 0 ≤ y ∧ y < 18446744073709551616) : parseC (strOfNums (textC x y)).data.toList = (x, y, 0) := by
  have e : (strOfNums (textC x y)).data.toList = [48, 99] ++ (by8 (hexs x 16) ++ by8 (hexs y 16)) := by
    rw [str_list]; unfold textC by8; simp
  have lx : (by8 (hexs x 16)).length = 16 := by unfold by8; rw [List.length_map, hexs_length]
  have ly : (by8 (hexs y 16)).length = 16 := by unfold by8; rw [List.length_map, hexs_length]
  rw [e]
  unfold parseC
  have h1 : ([48, 99] ++ (by8 (hexs x 16) ++ by8 (hexs y 16))).length = 34 := by simp [lx, ly]
  have h2 : ([48, 99] ++ (by8 (hexs x 16) ++ by8 (hexs y 16))).take 2 = [48, 99] := rfl
  have h3 : (([48, 99] ++ (by8 (hexs x 16) ++ by8 (hexs y 16))).drop 2).take 16 = by8 (hexs x 16) ++ [] := by
    show (by8 (hexs x 16) ++ by8 (hexs y 16)).take 16 = _
    rw [List.take_append_of_le_length (by omega), List.take_of_length_le (by omega), List.append_nil]
  have h4 : ([48, 99] ++ (by8 (hexs x 16) ++ by8 (hexs y 16))).drop 18 = by8 (hexs y 16) ++ [] := by
    show (by8 (hexs x 16) ++ by8 (hexs y 16)).drop 16 = _
    rw [List.drop_append_of_le_length (by omega), List.drop_eq_nil_of_le (by omega), List.append_nil]; rfl
  rw [if_pos ⟨h1, h2⟩, h3, h4, word_hexs x hx0 [] 16 (by omega), word_hexs y hy0 [] 16 (by omega)]
  simp only [wordL, Nat.sub_self, Nat.pow_zero, Nat.div_one]
  rw [Int.toNat_of_nonneg hx0.1, Int.toNat_of_nonneg hy0.1]
end Go.Proofs.YtenpnejkgopghaaDoor.ParseC
