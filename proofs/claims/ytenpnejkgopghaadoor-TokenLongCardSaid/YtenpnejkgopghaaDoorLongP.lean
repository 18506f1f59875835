/- Long names, long rows of spaces, as tokens. No program in sight. -/
import Derived.Test.YtenpnejkgopghaaDoorLexW
set_option linter.unusedVariables false
set_option linter.unusedSectionVars false
set_option linter.unusedSimpArgs false
set_option maxRecDepth 100000
namespace Go.Proofs.YtenpnejkgopghaaDoor.Tok
open Go Go.RowKit
theorem long_name {s : ByteArray} {c : UInt8} (hc : c = 97 ∨ c = 65) (h0 : 0 < s.size) (hs : ∀ k, k < s.size → at8 s k = c) :
    lexTo s 0 [] = if 200 < s.size then ⟨[], 0, 3⟩ else ⟨[⟨(if c = 97 then 1 else 3), s, 0, 0, 0, 0⟩], 0, 0⟩ := by
  have e0 := hs 0 h0
  have hw : isWhite c = false ∧ c.toNat ≠ 37 ∧ c.toNat ≠ 47 ∧ isWordy c = true := by rcases hc with rfl | rfl <;> decide
  have hR : runTo isWordy s 0 = s.size := runTo_eq (Nat.zero_le _) (Nat.le_refl _) (.inl rfl) fun k _ h2 => by rw [hs k h2]; exact hw.2.2.2
  have he : s.extract 0 s.size = s := ext_is (by omega) (Nat.le_refl _) fun k _ => by rw [Nat.zero_add]
  have ho : oneTo s 0 0 [] = nameTo (if c = 97 then 1 else 3) s 0 s.size := by
    unfold oneTo
    rw [e0, hR, he]
    rcases hc with rfl | rfl
    · rw [if_neg (by decide), if_pos (by decide)]; rfl
    · rw [if_pos (by decide)]; rfl
  have hsk := skip_here (s := s) (i := 0) (by omega) (by rw [e0]; exact hw.1) (by rw [e0]; exact ⟨hw.2.1, hw.2.2.1⟩)
  by_cases hl : 200 < s.size
  · rw [if_pos hl]
    have hb : oneTo s 0 0 [] = .bad 3 := by rw [ho]; exact if_pos hl
    rw [lex_bad (by rw [hsk]) (by rw [hsk]; show 0 ≠ s.size; omega) (by rw [hsk]; exact hb), hsk]
  · rw [if_neg hl]
    have hb : oneTo s 0 0 [] = .tok s.size ⟨(if c = 97 then 1 else 3), s, 0, 0, 0, ((0 : Nat) : Int)⟩ := by rw [ho]; exact if_neg hl
    rw [lex_tok (Nat.zero_le _) (by rw [hsk]) (by rw [hsk]; show 0 ≠ s.size; omega) (by rw [hsk]; exact hb), lex_stop]
    rfl
theorem long_space {s : ByteArray} (hs : ∀ k, k < s.size → at8 s k = 32) : lexTo s 0 [] = ⟨[], 0, 0⟩ := by
  have hr : runTo isWhite s 0 = s.size := runTo_eq (Nat.zero_le _) (Nat.le_refl _) (.inl rfl) fun k _ h2 => by rw [hs k h2]; decide
  have hsk := skip_to hr (.inl rfl)
  exact lex_end (by rw [hsk]) (by rw [hsk])
end Go.Proofs.YtenpnejkgopghaaDoor.Tok
