/- Tokens' places: they rise, and each token begins with what it is. No program in sight. -/
import Derived.Test.YtenpnejkgopghaaDoorLexW
set_option linter.unusedVariables false
set_option linter.unusedSectionVars false
set_option linter.unusedSimpArgs false
set_option maxRecDepth 100000
namespace Go.Proofs.YtenpnejkgopghaaDoor.Tok
open Go Go.RowKit Go.Proofs.YtenpnejkgopghaaDoor.Form Go.Proofs.YtenpnejkgopghaaDoor.ParseC
/-- A token begins with what it is. -/
def PlaceOk (s : ByteArray) (t : T) : Prop := ∃ a : Nat, t.at_ = ((a : Nat) : Int) ∧ a < s.size ∧
  ((t.kind = 1 ∨ t.kind = 3 ∨ t.kind = 6) → a + t.text.size ≤ s.size ∧ s.extract a (a + t.text.size) = t.text) ∧
  (t.kind = 7 → (at8 s a).toNat = 40 ∧ t.text = ⟨#[]⟩) ∧ (t.kind = 8 → (at8 s a).toNat = 46)
theorem plain_place {s : ByteArray} {i : Nat} {k n a b : Int} {tx : ByteArray} (hk : k ≠ 1 ∧ k ≠ 3 ∧ k ≠ 6 ∧ k ≠ 7 ∧ k ≠ 8) (hi : i < s.size) : PlaceOk s ⟨k, tx, n, a, b, ((i : Nat) : Int)⟩ :=
  ⟨i, rfl, hi, fun q => q.elim (fun q => absurd q hk.1) fun q => q.elim (fun q => absurd q hk.2.1) fun q => absurd q hk.2.2.1, fun q => absurd q hk.2.2.2.1, fun q => absurd q hk.2.2.2.2⟩
theorem name_place {s : ByteArray} {k : Int} {i m R j : Nat} {t : T} (hi : i < s.size) (hR : i ≤ R) (hR2 : R ≤ s.size) (hk : k ≠ 7 ∧ k ≠ 8) (h : nameTo k (s.extract i R) i R = .tok j t) : PlaceOk s t ∧ t.at_ = ((i : Nat) : Int) := by
  obtain ⟨rfl, rfl, _⟩ := nameTo_tok h
  have hz := size_sub (s := s) hR hR2
  refine ⟨⟨i, rfl, hi, fun _ => ⟨by show i + (s.extract i j).size ≤ _; omega, by show s.extract i (i + (s.extract i j).size) = s.extract i j; rw [hz, show i + (j - i) = j by omega]⟩, fun h => absurd h hk.1, fun h => absurd h hk.2⟩, rfl⟩
theorem one_place {s : ByteArray} {i m j : Nat} {ts : List T} {t : T} (hi : i < s.size) (h : oneTo s i m ts = .tok j t) : PlaceOk s t ∧ t.at_ = ((i : Nat) : Int) := by
  have rw_ : ∀ p : UInt8 → Bool, i ≤ runTo p s i ∧ runTo p s i ≤ s.size := fun p => ⟨runTo_ge p s i, runTo_le (by omega)⟩
  have one_ : s.extract i (i + 1) = ⟨#[at8 s i]⟩ := sub_one hi
  unfold oneTo at h
  split at h
  · exact name_place (m := m) hi (rw_ _).1 (rw_ _).2 (by decide) h
  split at h
  · exact name_place (m := m) hi (rw_ _).1 (rw_ _).2 (by decide) h
  split at h
  · unfold digTo at h
    split at h
    · split at h
      · injection h with _ h; subst h
        exact ⟨plain_place (by decide) hi, rfl⟩
      · cases h
    split at h
    · injection h with _ h; subst h
      exact ⟨plain_place (by decide) hi, rfl⟩
    split at h
    · injection h with _ h; subst h
      exact ⟨plain_place (by decide) hi, rfl⟩
    · cases h
  split at h
  · split at h
    · cases h
    · obtain ⟨_, rfl, _⟩ := nameTo_tok h
      exact ⟨plain_place (by decide) hi, rfl⟩
  split at h
  · rw [← one_] at h
    exact name_place (m := m) hi (Nat.le_succ i) hi (by decide) h
  split at h
  · rename_i h0
    injection h with _ h; subst h
    exact ⟨⟨i, rfl, hi, fun q => absurd (show (7 : Int) = 1 ∨ (7 : Int) = 3 ∨ (7 : Int) = 6 from q) (by decide), fun _ => ⟨h0.1, rfl⟩, fun q => absurd (show (7 : Int) = 8 from q) (by decide)⟩, rfl⟩
  split at h
  · injection h with _ h; subst h
    exact ⟨⟨i, rfl, hi, fun _ => ⟨hi, one_⟩, fun q => absurd (show (6 : Int) = 7 from q) (by decide), fun q => absurd (show (6 : Int) = 8 from q) (by decide)⟩, rfl⟩
  split at h
  · split at h
    · rename_i h0
      injection h with _ h; subst h
      refine ⟨⟨i, rfl, hi, fun q => absurd (show (8 : Int) = 1 ∨ (8 : Int) = 3 ∨ (8 : Int) = 6 from q) (by decide), fun q => absurd (show (8 : Int) = 7 from q) (by decide), fun _ => ?_⟩, rfl⟩
      have e := (ba_beq _ _).1 h0.1
      have hz := size_sub (s := s) (rw_ isSign).1 (rw_ isSign).2
      rw [e] at hz
      have z : (⟨#[46]⟩ : ByteArray).size = 1 := rfl
      have := at8_ext (s := s) (i := i) (j := runTo isSign s i) (k := 0) (by omega) (rw_ isSign).2
      rw [e, Nat.add_zero] at this
      rw [← this]; rfl
    · exact name_place (m := m) hi (rw_ _).1 (rw_ _).2 (by decide) h
  · cases h
theorem skip_bad_lt {s : ByteArray} {i : Nat} (hi : i ≤ s.size) (h : (skipTo s i).2 = false) : (skipTo s i).1 < s.size := by
  cases e : skipStep s i with
  | inl k =>
    have h3 := skipStep_on hi e
    rw [skipTo_on hi e] at h ⊢
    exact skip_bad_lt h3.2 h
  | inr r =>
    rw [skipTo_end e] at h ⊢
    unfold skipStep at e
    split at e
    · cases e
    · split at e
      · split at e
        · cases e
        · injection e with e; subst e; simp only; omega
      · injection e with e; subst e; cases h
termination_by s.size - i
/-- Each token is as it must be, and behind the one ahead. -/
def RowOk (s : ByteArray) (ts : List T) : Prop := ∀ (k : Nat) (t : T), ts[k]? = some t → PlaceOk s t ∧ ∀ (j : Nat) (u : T), j < k → ts[j]? = some u → u.at_ < t.at_
theorem rowOk_snoc {s : ByteArray} {ts : List T} {t : T} (h : RowOk s ts) (ht : PlaceOk s t) (hb : ∀ (j : Nat) (u : T), ts[j]? = some u → u.at_ < t.at_) : RowOk s (ts ++ [t]) := by
  intro k u hk
  by_cases hl : k < ts.length
  · rw [List.getElem?_append_left hl] at hk
    obtain ⟨h1, h2⟩ := h k u hk
    exact ⟨h1, fun j v hj hv => h2 j v hj (by rwa [List.getElem?_append_left (by omega)] at hv)⟩
  · rw [List.getElem?_append_right (by omega)] at hk
    obtain ⟨e, rfl⟩ : k = ts.length ∧ t = u := by
      have : k - ts.length = 0 := by
        cases q : k - ts.length with
        | zero => rfl
        | succ m => rw [q] at hk; simp at hk
      rw [this] at hk
      exact ⟨by omega, by simpa using hk⟩
    exact ⟨ht, fun j v hj hv => hb j v (by rwa [List.getElem?_append_left (by omega)] at hv)⟩
theorem lex_places {s : ByteArray} : ∀ (n i : Nat) (ts : List T), s.size - i ≤ n → i ≤ s.size → RowOk s ts → (∀ (j : Nat) (u : T), ts[j]? = some u → u.at_ < ((i : Nat) : Int)) → RowOk s (lexTo s i ts).ts ∧ ((lexTo s i ts).e ≠ 0 → (lexTo s i ts).ts = [] ∧ (lexTo s i ts).at_ < s.size ∧ 0 < s.size)
  | n, i, ts, hn, hi, hr, hb => by
    have nil_ : RowOk s [] := fun k t h => by simp at h
    have hk := skipTo_le hi
    by_cases h0 : (skipTo s i).2 = true
    · by_cases h1 : (skipTo s i).1 = s.size
      · rw [lex_end h0 h1]; exact ⟨hr, fun h => absurd rfl h⟩
      · cases h2 : oneTo s (skipTo s i).1 i ts with
        | bad e => rw [lex_bad h0 h1 h2]; exact ⟨nil_, fun _ => ⟨rfl, by show (skipTo s i).1 < _; omega, by omega⟩⟩
        | tok j t =>
          have h3 := oneTo_on (by omega) h2
          obtain ⟨h4, h5⟩ := one_place (by omega) h2
          rw [lex_tok hi h0 h1 h2]
          have hr2 : RowOk s (ts ++ [t]) := rowOk_snoc hr h4 fun j u hu => by have := hb j u hu; omega
          cases n with
          | zero => omega
          | succ n =>
            refine lex_places n j (ts ++ [t]) (by omega) h3.2 hr2 fun k u hu => ?_
            by_cases hl : k < ts.length
            · rw [List.getElem?_append_left hl] at hu
              have := hb k u hu; omega
            · rw [List.getElem?_append_right (by omega)] at hu
              cases q : k - ts.length with
              | zero => rw [q] at hu; obtain rfl : t = u := by simpa using hu
                        omega
              | succ m => rw [q] at hu; simp at hu
    · have h0 := Bool.eq_false_iff.2 h0
      rw [lex_gap h0]
      refine ⟨nil_, fun _ => ⟨rfl, ?_, ?_⟩⟩
      · show (skipTo s i).1 < _
        have := skip_bad_lt hi h0
        omega
      · have := skip_bad_lt hi h0
        omega
theorem lex_len {s : ByteArray} : ∀ (n i : Nat) (ts : List T), s.size - i ≤ n → i ≤ s.size → ts.length ≤ i → (lexTo s i ts).ts.length ≤ s.size
  | n, i, ts, hn, hi, hl => by
    have hk := skipTo_le hi
    by_cases h0 : (skipTo s i).2 = true
    · by_cases h1 : (skipTo s i).1 = s.size
      · rw [lex_end h0 h1]; exact Nat.le_trans hl hi
      · cases h2 : oneTo s (skipTo s i).1 i ts with
        | bad e => rw [lex_bad h0 h1 h2]; exact Nat.zero_le _
        | tok j t =>
          have h3 := oneTo_on (by omega) h2
          rw [lex_tok hi h0 h1 h2]
          cases n with
          | zero => omega
          | succ n => exact lex_len n j (ts ++ [t]) (by omega) h3.2 (by simp; omega)
    · rw [lex_gap (Bool.eq_false_iff.2 h0)]; exact Nat.zero_le _
theorem places_ok {s : ByteArray} {L : Lexed} (hL : lexTo s 0 [] = L) : RowOk s L.ts ∧ (L.e ≠ 0 → L.ts = [] ∧ L.at_ < s.size ∧ 0 < s.size) := by
  rw [← hL]
  exact lex_places s.size 0 [] (by omega) (Nat.zero_le _) (fun k t h => by simp at h) fun j u h => by simp at h
end Go.Proofs.YtenpnejkgopghaaDoor.Tok
