/- Texts put together, byte by byte; runs by their ends; a few tokens. No program in sight. -/
import Derived.Test.YtenpnejkgopghaaDoorLexQ
set_option linter.unusedVariables false
set_option maxRecDepth 100000
set_option linter.unusedSectionVars false
set_option linter.unusedSimpArgs false
namespace Go.Proofs.YtenpnejkgopghaaDoor.Tok
open Go Go.RowKit Go.Proofs.YtenpnejkgopghaaDoor.Form Go.Proofs.YtenpnejkgopghaaDoor.ParseC
theorem at8_eq {s : ByteArray} {i : Nat} (h : i < s.size) : at8 s i = s[i] := by
  unfold at8
  have e : s[i]? = some s[i] := by simp [h]
  rw [e]; rfl
theorem at8_out {s : ByteArray} {i : Nat} (h : s.size ≤ i) : at8 s i = 0 := by
  unfold at8
  have e : s[i]? = none := by simp [h]
  rw [e]; rfl
theorem at8_app (x y : ByteArray) (k : Nat) : at8 (x ++ y) k = if k < x.size then at8 x k else at8 y (k - x.size) := by
  by_cases h : k < x.size
  · rw [if_pos h, at8_eq h, at8_eq (by rw [ByteArray.size_append]; omega), ByteArray.getElem_append_left h]
  · rw [if_neg h]
    by_cases h2 : k < x.size + y.size
    · rw [at8_eq (by rw [ByteArray.size_append]; omega : k < (x ++ y).size), at8_eq (by omega : k - x.size < y.size), ByteArray.getElem_append_right (by omega)]
    · rw [at8_out (by rw [ByteArray.size_append]; omega), at8_out (by omega)]
theorem at8_left {x y : ByteArray} {k : Nat} (h : k < x.size) : at8 (x ++ y) k = at8 x k := by rw [at8_app, if_pos h]
theorem at8_right {x y : ByteArray} {k : Nat} (h : x.size ≤ k) : at8 (x ++ y) k = at8 y (k - x.size) := by rw [at8_app, if_neg (by omega)]
theorem text_ext {x y : ByteArray} (hs : x.size = y.size) (h : ∀ k, k < x.size → at8 x k = at8 y k) : x = y := by
  apply ByteArray.ext
  apply Array.ext
  · exact hs
  · intro i h1 h2
    have := h i h1
    rw [at8_eq h1, at8_eq (show i < y.size from h2)] at this
    exact this
theorem at8_ext {s : ByteArray} {i j k : Nat} (hk : k < j - i) (hj : j ≤ s.size) : at8 (s.extract i j) k = at8 s (i + k) := by
  have h := at8_sub (s := s) (a := i) (b := j) (j := k) (p := i + k) rfl (by omega) hj
  unfold at8 at h ⊢
  rw [h]; rfl
/-- A part of a text, by its bytes. -/
theorem ext_is {s a : ByteArray} {i j : Nat} (hij : j = i + a.size) (hj : j ≤ s.size) (h : ∀ k, k < a.size → at8 s (i + k) = at8 a k) : s.extract i j = a := by
  have e := size_sub (s := s) (a := i) (b := j) (by omega) hj
  refine text_ext (by omega) fun k hk => ?_
  rw [at8_ext (by omega) hj, h k (by omega)]
/-- A run, by its end. -/
theorem runTo_is {p : UInt8 → Bool} {s : ByteArray} {j : Nat} (hj : j ≤ s.size) (he : j = s.size ∨ p (at8 s j) = false) : ∀ (n i : Nat), i + n = j → (∀ k, i ≤ k → k < j → p (at8 s k) = true) → runTo p s i = j
  | 0, i, h, _ => by
    obtain rfl : i = j := h
    refine runTo_no fun hh => ?_
    rcases he with e | e
    · omega
    · rw [e] at hh; cases hh.2
  | n + 1, i, h, hin => by
    rw [runTo_yes (by omega) (hin i (Nat.le_refl _) (by omega))]
    exact runTo_is hj he n (i + 1) (by omega) fun k h1 h2 => hin k (by omega) h2
theorem runTo_eq {p : UInt8 → Bool} {s : ByteArray} {i j : Nat} (hij : i ≤ j) (hj : j ≤ s.size) (he : j = s.size ∨ p (at8 s j) = false) (hin : ∀ k, i ≤ k → k < j → p (at8 s k) = true) : runTo p s i = j :=
  runTo_is hj he (j - i) i (by omega) hin
/-! ### Kinds of bytes -/
end Go.Proofs.YtenpnejkgopghaaDoor.Tok
