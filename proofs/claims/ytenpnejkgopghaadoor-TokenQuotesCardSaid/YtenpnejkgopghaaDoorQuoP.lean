/- A name between quotes, if it needs them: what Plain, Quote answer. No program in sight. -/
import Derived.Test.YtenpnejkgopghaaDoorLexW
set_option linter.unusedVariables false
set_option linter.unusedSectionVars false
set_option linter.unusedSimpArgs false
set_option maxRecDepth 100000
namespace Go.Proofs.YtenpnejkgopghaaDoor.Tok
open Go Go.RowKit
/-- One token, a name, with that text. -/
def plainL (L : Lexed) (s : ByteArray) : Bool := decide (L.e = 0) && (match L.ts with | [t] => decide (t.kind = 1) && (t.text == s) | _ => false)
/-- May it stand as it is? -/
def plainB (s : ByteArray) : Bool := (s == ⟨#[91, 93]⟩) || (decide (s.size ≤ 200) && plainL (lexTo (s ++ ⟨#[32]⟩) 0 []) s)
/-- A byte between quotes. -/
def escB (b : ByteArray) (c : UInt8) : ByteArray := if c.toNat = 92 then (b.push 92).push 92 else if c.toNat = 10 then (b.push 92).push 110 else if c.toNat = 39 then (b.push 92).push 39 else b.push c
/-- A text between quotes, from a place on. -/
def quoteTo (s : ByteArray) (j : Nat) (b : ByteArray) : ByteArray := if j < s.size then quoteTo s (j + 1) (escB b (at8 s j)) else b.push 39
termination_by s.size - j
theorem quoteTo_on {s : ByteArray} {j : Nat} {b : ByteArray} (h : j < s.size) : quoteTo s j b = quoteTo s (j + 1) (escB b (at8 s j)) := by
  conv => lhs; unfold quoteTo
  rw [if_pos h]
theorem quoteTo_end {s : ByteArray} {j : Nat} {b : ByteArray} (h : ¬ j < s.size) : quoteTo s j b = b.push 39 := by
  unfold quoteTo
  rw [if_neg h]
theorem escB_size (b : ByteArray) (c : UInt8) : (escB b c).size ≤ b.size + 2 := by
  unfold escB
  split
  · simp [ByteArray.size_push]
  split
  · simp [ByteArray.size_push]
  split
  · simp [ByteArray.size_push]
  · simp [ByteArray.size_push]
def quoteB (s : ByteArray) : ByteArray := if plainB s = true then s else quoteTo s 0 ⟨#[39]⟩
theorem quoteTo_size (s : ByteArray) : ∀ (n j : Nat) (b : ByteArray), s.size - j ≤ n → (quoteTo s j b).size ≤ b.size + 2 * (s.size - j) + 1
  | n, j, b, hn => by
    by_cases h : j < s.size
    · rw [quoteTo_on h]
      have h1 := escB_size b (at8 s j)
      cases n with
      | zero => omega
      | succ n =>
        have := quoteTo_size s n (j + 1) (escB b (at8 s j)) (by omega)
        omega
    · rw [quoteTo_end h, ByteArray.size_push]; omega
end Go.Proofs.YtenpnejkgopghaaDoor.Tok
