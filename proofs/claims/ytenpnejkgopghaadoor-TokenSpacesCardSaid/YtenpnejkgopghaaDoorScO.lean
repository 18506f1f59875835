/- Proved: x.behind(), x.open(end) of a scanner. Conditions: the text's length, how many tokens there are. -/
import Derived.Test.YtenpnejkgopghaaDoorSc3
import Derived.Test.YtenpnejkgopghaaDoorLexQ
set_option linter.unusedVariables false
namespace Go.Proofs.YtenpnejkgopghaaDoor.Tok
open Go Go.RowKit Go.Proofs.YtenpnejkgopghaaDoor.AK
variable [Gnd]
theorem sc_nil {B g : Nat} {s : ByteArray} {i : Nat} {v : Value} (h : ∃ w, MemAt w B (Sc g s i [] (.st v)) []) : ∃ a c, v = .slice a 0 c := by
  obtain ⟨w, h⟩ := h
  obtain ⟨v', e, h2, h3⟩ := sc_slice h
  cases e
  obtain ⟨a, c, e, _⟩ := h2.slice
  exact ⟨a, c, e⟩
theorem behind_does {B g i : Nat} {s : ByteArray} {ts : List T} {v : Value} (hi : i ≤ s.size) (hs : s.size ≤ 1000000) (hts : ts.length ≤ 1000000) :
    Does Tryd.prog 64 [.pointer (some ⟨g, 0, none⟩)] B (Sc g s i ts (.st v)) fun u S1 => u = .bool (behindP ts i) ∧ S1 = Sc g s i ts (.st v) := by
  refine Does.know fun hw => ?_
  rcases List.eq_nil_or_concat ts with rfl | ⟨ts0, t, e⟩
  · obtain ⟨a, c, rfl⟩ := sc_nil hw
    exact behindN hi hs
  · rw [List.concat_eq_append] at e
    subst e
    obtain ⟨b, c, rfl⟩ := sc_some hw (by simp)
    rw [behindP_snoc]
    have h0 : (0 : Int) < (((ts0 ++ [t]).length : Nat) : Int) := by rw [len_snoc]; omega
    have hl : ts0.length ≤ 1000000 := by rw [len_snoc] at hts; omega
    by_cases h1 : t.kind = 1
    · by_cases h2 : (t.text == ⟨#[45]⟩) = true
      · by_cases h3 : t.at_ = (i : Int) - 1
        · exact ((((((behindS hi hs hl).1 h0).1 (by rw [tokAt_last]; exact h1)).1 (by rw [tokAt_last]; exact h2)).1 (by rw [tokAt_last]; exact h3))).mono fun u S1 ⟨q1, q2⟩ => ⟨by rw [q1, decide_eq_true h1, h2, decide_eq_true h3]; rfl, q2⟩
        · exact ((((((behindS hi hs hl).1 h0).1 (by rw [tokAt_last]; exact h1)).1 (by rw [tokAt_last]; exact h2)).2 (by rw [tokAt_last]; exact h3))).mono fun u S1 ⟨q1, q2⟩ => ⟨by rw [q1, decide_eq_false h3, Bool.and_false], q2⟩
      · exact (((((behindS hi hs hl).1 h0).1 (by rw [tokAt_last]; exact h1)).2 (by rw [tokAt_last]; exact h2))).mono fun u S1 ⟨q1, q2⟩ => ⟨by rw [q1, Bool.eq_false_iff.2 h2, Bool.and_false, Bool.false_and], q2⟩
    · exact ((((behindS hi hs hl).1 h0).2 (by rw [tokAt_last]; exact h1))).mono fun u S1 ⟨q1, q2⟩ => ⟨by rw [q1, decide_eq_false h1, Bool.false_and, Bool.false_and], q2⟩
theorem open_does {B g i m : Nat} {s : ByteArray} {ts : List T} {v : Value} (hi : i ≤ s.size) (hs : s.size ≤ 1000000) (hts : ts.length ≤ 1000000) :
    Does Tryd.prog 43 [.pointer (some ⟨g, 0, none⟩), .int .i64 ((m : Nat) : Int)] B (Sc g s i ts (.st v)) fun u S1 => u = .bool (openP ts m i) ∧ S1 = Sc g s i ts (.st v) := by
  refine Does.know fun hw => ?_
  rcases List.eq_nil_or_concat ts with rfl | ⟨ts0, t, e⟩
  · obtain ⟨a, c, rfl⟩ := sc_nil hw
    exact openN hi hs
  · rw [List.concat_eq_append] at e
    subst e
    obtain ⟨b, c, rfl⟩ := sc_some hw (by simp)
    rw [openP_snoc]
    have h0 : (0 : Int) < (((ts0 ++ [t]).length : Nat) : Int) := by rw [len_snoc]; omega
    have hl : ts0.length ≤ 1000000 := by rw [len_snoc] at hts; omega
    by_cases h1 : t.kind = 1
    · by_cases h3 : m = i
      · exact (((((openS hi hs hl).1 h0).1 (by rw [tokAt_last]; exact h1)).1 (by omega))).mono fun u S1 ⟨q1, q2⟩ => ⟨by rw [q1]; simp [h1, h3], q2⟩
      · exact (((((openS hi hs hl).1 h0).1 (by rw [tokAt_last]; exact h1)).2 (by omega))).mono fun u S1 ⟨q1, q2⟩ => ⟨by rw [q1]; simp [h3], q2⟩
    · by_cases h2 : t.kind = 2
      · by_cases h3 : m = i
        · exact ((((((openS hi hs hl).1 h0).2 (by rw [tokAt_last]; exact h1)).1 (by rw [tokAt_last]; exact h2)).1 (by omega))).mono fun u S1 ⟨q1, q2⟩ => ⟨by rw [q1]; simp [h2, h3], q2⟩
        · exact ((((((openS hi hs hl).1 h0).2 (by rw [tokAt_last]; exact h1)).1 (by rw [tokAt_last]; exact h2)).2 (by omega))).mono fun u S1 ⟨q1, q2⟩ => ⟨by rw [q1]; simp [h3], q2⟩
      · exact (((((openS hi hs hl).1 h0).2 (by rw [tokAt_last]; exact h1)).2 (by rw [tokAt_last]; exact h2))).mono fun u S1 ⟨q1, q2⟩ => ⟨by rw [q1]; simp [h1, h2], q2⟩
end Go.Proofs.YtenpnejkgopghaaDoor.Tok
