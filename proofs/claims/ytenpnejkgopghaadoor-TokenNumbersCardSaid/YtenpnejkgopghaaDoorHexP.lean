/- Digits of a word at base 16, the text of two words. No program in sight. -/
import Derived.RowKit
import Derived.Laws.BytesArg
import Derived.Laws.BitsLemmas
set_option linter.unusedVariables false
set_option linter.unusedSectionVars false
set_option linter.unusedSimpArgs false
namespace Go.Proofs.YtenpnejkgopghaaDoor.Put
open Go Go.RowKit
/-- A fact that is kept aside. -/
structure Aside0 (p : Prop) : Prop where
  out : p
/-- Numbers as values. -/
def nums (k : IntKind) (xs : List Int) : List Value := xs.map (Value.int k)
/-- A byte of a text, by a number. -/
def bt (s : ByteArray) (i : Int) : Int := if h : i.toNat < s.size then ((s[i.toNat]'h).toNat : Int) else 0
theorem bt_at (s : ByteArray) (i : Int) (h : i.toNat < s.size) : ((s[i.toNat]'h).toNat : Int) = bt s i := by unfold bt; rw [dif_pos h]
/-- The byte of a digit. -/
def hexd (n : Nat) : Int := if n < 10 then 48 + n else 87 + n
/-- The first j of sixteen digits of a word. -/
def hexs (x : Int) (j : Nat) : List Int := (List.range j).map fun t => hexd (x.toNat / 16 ^ (15 - t) % 16)
theorem hexs_succ (x : Int) (j : Nat) : hexs x (j + 1) = hexs x j ++ [hexd (x.toNat / 16 ^ (15 - j) % 16)] := by
  unfold hexs; rw [List.range_succ, List.map_append]; rfl
theorem hexs_length (x : Int) (j : Nat) : (hexs x j).length = j := by unfold hexs; simp

theorem byte_at (n : Nat) (h : n < 16) : bt (⟨#[48, 49, 50, 51, 52, 53, 54, 55, 56, 57, 97, 98, 99, 100, 101, 102]⟩ : ByteArray) n = hexd n := by
  have : ∀ m : Fin 16, bt (⟨#[48, 49, 50, 51, 52, 53, 54, 55, 56, 57, 97, 98, 99, 100, 101, 102]⟩ : ByteArray) (m.val : Int) = hexd m.val := by decide
  exact this ⟨n, h⟩

theorem low4 (y : Int) (h0 : 0 ≤ y) (h1 : y < 18446744073709551616) : Go.bits .and .u64 y 15 = y % 16 := by
  obtain ⟨n, rfl⟩ : ∃ n : Nat, y = n := ⟨y.toNat, by omega⟩
  unfold Go.bits
  have e : ((BitVec.ofInt 64 (n : Int)) &&& (BitVec.ofInt 64 15)).toNat = n % 16 := by
    rw [BitVec.toNat_and]
    have h1 : (BitVec.ofInt 64 (n : Int)).toNat = n := by simp; omega
    have h3 : (BitVec.ofInt 64 15).toNat = 2 ^ 4 - 1 := by decide
    rw [h1, h3, Nat.and_two_pow_sub_one_eq_mod]
  show IntKind.u64.wrap (((BitVec.ofInt 64 (n : Int)) &&& (BitVec.ofInt 64 15)).toNat : Int) = _
  rw [e]
  show ((n % 16 : Nat) : Int) % 18446744073709551616 = _
  omega
theorem nib (x : Int) (h0 : 0 ≤ x) (h1 : x < 18446744073709551616) (k : Nat) :
    Go.bits .and .u64 (x / 2 ^ (4 * k)) 15 = ((x.toNat / 16 ^ k % 16 : Nat) : Int) := by
  obtain ⟨n, rfl⟩ : ∃ n : Nat, x = n := ⟨x.toNat, by omega⟩
  have e2 : ((n : Int) / (2 ^ (4 * k) : Int)) = ((n / 16 ^ k : Nat) : Int) := by
    rw [Int.natCast_ediv, show (16 : Nat) = 2 ^ 4 from rfl, ← Nat.pow_mul]
    simp
  have le : n / 16 ^ k ≤ n := Nat.div_le_self _ _
  rw [e2]
  show _ = ((n / 16 ^ k % 16 : Nat) : Int)
  generalize n / 16 ^ k = m at *
  rw [low4 _ (by omega) (by omega)]
  rfl
theorem byte_of (d : Nat) (h : d < 16) : ∀ hd : d < (⟨#[48, 49, 50, 51, 52, 53, 54, 55, 56, 57, 97, 98, 99, 100, 101, 102]⟩ : ByteArray).size,
    (((⟨#[48, 49, 50, 51, 52, 53, 54, 55, 56, 57, 97, 98, 99, 100, 101, 102]⟩ : ByteArray)[d]'hd).toNat : Int) = hexd d := fun hd =>
  (bt_at _ (d : Int) (by simpa using hd)).trans (byte_at d h)

/-- The text of two words. -/
def textC (x y : Int) : List Int := ([48, 99] : List Int) ++ hexs x 16 ++ hexs y 16
end Go.Proofs.YtenpnejkgopghaaDoor.Put
