/- A name that stands as it is, is one token. No program in sight. -/
import Derived.Test.YtenpnejkgopghaaDoorQuoL
set_option linter.unusedVariables false
set_option linter.unusedSectionVars false
set_option linter.unusedSimpArgs false
set_option maxRecDepth 100000
namespace Go.Proofs.YtenpnejkgopghaaDoor.Tok
open Go Go.RowKit
theorem lex_prefix {s : ByteArray} : ∀ (n i : Nat) (ts : List T), s.size - i ≤ n → i ≤ s.size → (lexTo s i ts).e = 0 → ∃ more, (lexTo s i ts).ts = ts ++ more
  | n, i, ts, hn, hi, he => by
    have hk := skipTo_le hi
    by_cases h0 : (skipTo s i).2 = true
    · by_cases h1 : (skipTo s i).1 = s.size
      · rw [lex_end h0 h1]; exact ⟨[], by simp⟩
      · cases h2 : oneTo s (skipTo s i).1 i ts with
        | bad e =>
          rw [lex_bad h0 h1 h2] at he
          exact absurd he (oneTo_err h2)
        | tok j t =>
          have h3 := oneTo_on (by omega) h2
          rw [lex_tok hi h0 h1 h2] at he ⊢
          cases n with
          | zero => omega
          | succ n =>
            obtain ⟨more, hm⟩ := lex_prefix n j (ts ++ [t]) (by omega) h3.2 he
            exact ⟨t :: more, by rw [hm, List.append_assoc]; rfl⟩
    · rw [lex_gap (Bool.eq_false_iff.2 h0)] at he
      cases he
/-- What the first token is. -/
theorem lex_first {s : ByteArray} {t : T} {more : List T} (he : (lexTo s 0 []).e = 0) (hts : (lexTo s 0 []).ts = t :: more) : (skipTo s 0).2 = true ∧ (skipTo s 0).1 < s.size ∧ ∃ j, oneTo s (skipTo s 0).1 0 [] = .tok j t := by
  have hk := skipTo_le (s := s) (i := 0) (Nat.zero_le _)
  by_cases h0 : (skipTo s 0).2 = true
  · by_cases h1 : (skipTo s 0).1 = s.size
    · rw [lex_end h0 h1] at hts; cases hts
    · cases h2 : oneTo s (skipTo s 0).1 0 [] with
      | bad e =>
        rw [lex_bad h0 h1 h2] at he
        exact absurd he (oneTo_err h2)
      | tok j u =>
        have h3 := oneTo_on (by omega) h2
        rw [lex_tok (Nat.zero_le _) h0 h1 h2] at he hts
        obtain ⟨m2, hm⟩ := lex_prefix (s.size - j) j _ (Nat.le_refl _) h3.2 he
        rw [hm] at hts
        obtain rfl : u = t := by
          have : u :: m2 = t :: more := hts
          injection this
        exact ⟨h0, by omega, j, rfl⟩
  · rw [lex_gap (Bool.eq_false_iff.2 h0)] at he
    cases he
theorem skip_zero {s : ByteArray} (h0 : 0 < s.size) (h : skipTo s 0 = (0, true)) : isWhite (at8 s 0) = false ∧ (at8 s 0).toNat ≠ 37 ∧ ¬ (1 < s.size ∧ (at8 s 0).toNat = 47 ∧ (at8 s 1).toNat = 42) := by
  cases e : skipStep s 0 with
  | inl k =>
    have h3 := skipStep_on (Nat.zero_le _) e
    rw [skipTo_on (Nat.zero_le _) e] at h
    have := skipTo_le (s := s) (i := k) h3.2
    rw [h] at this
    have : k ≤ 0 := this.1
    omega
  | inr r =>
    rw [skipTo_end e] at h
    subst h
    have hr : runTo isWhite s 0 = 0 := by
      unfold skipStep at e
      split at e
      · cases e
      · split at e
        · split at e
          · cases e
          · injection e with e; injection e with e1 e2
        · injection e with e; injection e with e1 e2
    have hw : isWhite (at8 s 0) = false := by
      have := runTo_end isWhite s 0
      rw [hr] at this
      cases q : isWhite (at8 s 0) with
      | false => rfl
      | true => exact absurd ⟨h0, q⟩ this
    unfold skipStep at e
    rw [hr] at e
    split at e
    · cases e
    · rename_i c1
      split at e
      · split at e
        · cases e
        · injection e with e; injection e with e1 e2; cases e2
      · rename_i c2
        exact ⟨hw, fun q => c1 ⟨h0, q⟩, c2⟩
theorem skip_zero_of {s : ByteArray} (h0 : 0 < s.size) (h : isWhite (at8 s 0) = false ∧ (at8 s 0).toNat ≠ 37 ∧ ¬ (1 < s.size ∧ (at8 s 0).toNat = 47 ∧ (at8 s 1).toNat = 42)) : skipTo s 0 = (0, true) := by
  have hr : runTo isWhite s 0 = 0 := runTo_no fun q => by rw [h.1] at q; cases q.2
  refine skipTo_end ?_
  unfold skipStep
  rw [hr, if_neg (fun q => h.2.1 q.2), if_neg h.2.2]
/-- A run in a text with a space behind that is the whole text. -/
theorem run_whole {s : ByteArray} {p : UInt8 → Bool} {i : Nat} (hp : p 32 = false) (hi : i < s.size + 1) (hpi : p (at8 (s ++ ⟨#[32]⟩) i) = true) (he : (s ++ ⟨#[32]⟩).extract i (runTo p (s ++ ⟨#[32]⟩) i) = s) : i = 0 ∧ 0 < s.size ∧ runTo p s 0 = s.size := by
  obtain ⟨q, hq⟩ : ∃ q, q = s ++ ⟨#[32]⟩ := ⟨_, rfl⟩
  rw [← hq] at hpi he
  have hz : q.size = s.size + 1 := by rw [hq, ByteArray.size_append]; rfl
  have hl : at8 q s.size = 32 := by rw [hq, at8_right (Nat.le_refl _), Nat.sub_self]; rfl
  have r1 := runTo_ge p q (i + 1)
  have r2 := runTo_le (p := p) (s := q) (j := i) (by omega)
  rw [← runTo_yes (by omega) hpi] at r1
  have r3 : runTo p q i ≤ s.size := by
    rcases Nat.lt_or_ge s.size (runTo p q i) with h | h
    · have := (runTo_in (p := p) (s := q) (j := i) (k := s.size) (by omega) h).2
      rw [hl, hp] at this; cases this
    · exact h
  have hs := size_sub (s := q) (a := i) (b := runTo p q i) (by omega) r2
  rw [he] at hs
  obtain rfl : i = 0 := by omega
  refine ⟨rfl, by omega, ?_⟩
  refine runTo_eq (Nat.zero_le _) (Nat.le_refl _) (.inl rfl) fun k _ hk => ?_
  have := (runTo_in (p := p) (s := q) (j := 0) (k := k) (Nat.zero_le _) (by omega)).2
  rwa [hq, at8_left hk] at this
theorem plain_lex {s : ByteArray} (h : plainB s = true) (hn : (s == ⟨#[91, 93]⟩) = false) : lexTo s 0 [] = ⟨[⟨1, s, 0, 0, 0, 0⟩], 0, 0⟩ := by
  unfold plainB at h
  rw [hn, Bool.false_or, Bool.and_eq_true, decide_eq_true_eq] at h
  obtain ⟨hl, h⟩ := h
  obtain ⟨q, hq⟩ : ∃ q, q = s ++ ⟨#[32]⟩ := ⟨_, rfl⟩
  have hz : q.size = s.size + 1 := by rw [hq, ByteArray.size_append]; rfl
  rw [← hq] at h
  unfold plainL at h
  rw [Bool.and_eq_true, decide_eq_true_eq] at h
  obtain ⟨he, h⟩ := h
  split at h
  · rename_i t hts
    rw [Bool.and_eq_true, decide_eq_true_eq, ba_beq] at h
    obtain ⟨hk, htx⟩ := h
    obtain ⟨g1, g2, j, ho⟩ := lex_first he hts
    have key : (skipTo q 0).1 = 0 ∧ 0 < s.size ∧ oneTo s 0 0 [] = .tok s.size ⟨1, s, 0, 0, 0, 0⟩ := by
      generalize (skipTo q 0).1 = i at ho g2
      have fin : ∀ p : UInt8 → Bool, p 32 = false → p (at8 q i) = true → t.text = q.extract i (runTo p q i) → i = 0 ∧ 0 < s.size ∧ runTo p s 0 = s.size ∧ s.extract 0 s.size = s ∧ at8 s 0 = at8 q 0 := fun p hp hpi ht => by
        rw [htx] at ht
        rw [hq] at hpi ht
        obtain ⟨a1, a2, a3⟩ := run_whole hp (by omega) hpi ht.symm
        exact ⟨a1, a2, a3, ext_is (by omega) (Nat.le_refl _) fun k _ => by rw [Nat.zero_add], by rw [hq, at8_left a2]⟩
      have ho' := ho
      unfold oneTo at ho
      split at ho
      · obtain ⟨_, rfl, _⟩ := nameTo_tok ho; cases hk
      split at ho
      · rename_i c0 c1
        obtain ⟨_, rfl, _⟩ := nameTo_tok ho
        obtain ⟨rfl, a2, a3, a4, a5⟩ := fin isWordy (by decide) ((kinds_ _ c1).2.1) rfl
        refine ⟨rfl, a2, ?_⟩
        unfold oneTo
        rw [a5, if_neg c0, if_pos c1, a3, a4]
        exact if_neg (by omega)
      split at ho
      · unfold digTo at ho
        split at ho
        · split at ho
          · injection ho with _ ho; subst ho; cases hk
          · cases ho
        split at ho
        · injection ho with _ ho; subst ho; cases hk
        split at ho
        · injection ho with _ ho; subst ho; cases hk
        · cases ho
      split at ho
      · split at ho
        · cases ho
        · obtain ⟨_, rfl, _⟩ := nameTo_tok ho; cases hk
      split at ho
      · rename_i c0 c1 c2 c3 c4
        obtain ⟨_, rfl, _⟩ := nameTo_tok ho
        have hs1 : s = ⟨#[at8 q i]⟩ := htx.symm
        have hsz : s.size = 1 := by rw [hs1]; rfl
        have hi : i = 0 := by
          rcases Nat.eq_zero_or_pos i with e | e
          · exact e
          · have e1 : i = s.size := by omega
            have : at8 q i = 32 := by rw [hq, at8_right (by omega), show i - s.size = 0 by omega]; rfl
            rw [this] at c4
            exact absurd c4 (by decide)
        subst hi
        have a5 : at8 s 0 = at8 q 0 := by rw [hq, at8_left (by omega)]
        refine ⟨rfl, by omega, ?_⟩
        unfold oneTo
        rw [a5, if_neg c0, if_neg c1, if_neg c2, if_neg c3, if_pos c4, nameTo_one, ← hs1, hsz]
        rfl
      split at ho
      · injection ho with _ ho; subst ho; cases hk
      split at ho
      · injection ho with _ ho; subst ho; cases hk
      split at ho
      · rename_i c0 c1 c2 c3 c4 c5 c6 c7
        split at ho
        · injection ho with _ ho; subst ho; cases hk
        · rename_i c8
          obtain ⟨_, rfl, _⟩ := nameTo_tok ho
          obtain ⟨rfl, a2, a3, a4, a5⟩ := fin isSign (by decide) c7 rfl
          refine ⟨rfl, a2, ?_⟩
          have c9 : ¬ ((s.extract 0 (runTo isSign s 0) == ⟨#[46]⟩) = true ∧ endsP s 0 = true) := by
            rintro ⟨b1, _⟩
            rw [a3, a4] at b1
            have b2 := (ba_beq _ _).1 b1
            refine c8 ⟨?_, ?_⟩
            · have : q.extract 0 (runTo isSign q 0) = s := htx
              rw [this]; exact b1
            · have b3 : s.size = 1 := by rw [b2]; rfl
              unfold endsP
              have : at8 q 1 = 32 := by rw [hq, at8_right (by omega), b3]; rfl
              rw [this]; simp; right; decide
          unfold oneTo
          rw [a5, if_neg c0, if_neg c1, if_neg c2, if_neg c3, if_neg c4, if_neg (fun x => by cases x.2), if_neg c6, if_pos c7, if_neg c9, a3, a4]
          exact if_neg (by omega)
      · cases ho
    obtain ⟨k1, k2, k3⟩ := key
    have hsq : skipTo q 0 = (0, true) := Prod.ext k1 g1
    obtain ⟨w1, w2, w3⟩ := skip_zero (by omega) hsq
    have a0 : at8 q 0 = at8 s 0 := by rw [hq, at8_left k2]
    rw [a0] at w1 w2 w3
    have hsk := skip_zero_of (s := s) k2 ⟨w1, w2, fun x => w3 ⟨by omega, x.2.1, by rw [hq, at8_left x.1]; exact x.2.2⟩⟩
    rw [lex_tok (Nat.zero_le _) (by rw [hsk]) (by rw [hsk]; show 0 ≠ s.size; omega) (by rw [hsk]; exact k3), lex_stop]
    rfl
  · cases h
end Go.Proofs.YtenpnejkgopghaaDoor.Tok
