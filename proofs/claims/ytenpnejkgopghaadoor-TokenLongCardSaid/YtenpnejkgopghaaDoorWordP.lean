/- Names side by side, as tokens. No program in sight. -/
import Derived.Test.YtenpnejkgopghaaDoorLexW
set_option linter.unusedVariables false
set_option linter.unusedSectionVars false
set_option linter.unusedSimpArgs false
namespace Go.Proofs.YtenpnejkgopghaaDoor.Tok
open Go Go.RowKit
/-- Small letters, one at least. -/
def LowerP (s : ByteArray) : Prop := 0 < s.size ∧ ∀ k, k < s.size → isSmall (at8 s k) = true
/-- A small name within a text, and what follows it. -/
theorem lex_small {s a : ByteArray} {i : Nat} {ts : List T} (ha : LowerP a) (hl : a.size ≤ 200) (hi : i + a.size ≤ s.size) (hin : ∀ k, k < a.size → at8 s (i + k) = at8 a k) (he : i + a.size = s.size ∨ isWordy (at8 s (i + a.size)) = false) :
    lexTo s i ts = lexTo s (i + a.size) (ts ++ [⟨1, a, 0, 0, 0, ((i : Nat) : Int)⟩]) := by
  have h0 := ha.2 0 ha.1
  have hk0 := hin 0 ha.1
  rw [Nat.add_zero] at hk0
  have hk := kinds_ _ h0
  rw [← hk0] at hk h0
  have hsk := skip_here (s := s) (i := i) (by omega) hk.2.2.1 ⟨hk.2.2.2.1, hk.2.2.2.2⟩
  have hR : runTo isWordy s i = i + a.size := runTo_eq (by omega) hi he fun k h1 h2 => by
    have := hin (k - i) (by omega)
    rw [show i + (k - i) = k by omega] at this
    rw [this]; exact (kinds_ _ (ha.2 _ (by omega))).2.1
  have he2 : s.extract i (i + a.size) = a := ext_is rfl hi hin
  have h1 := one_small (m := i) (ts := ts) h0 hR (by rw [he2]; exact hl)
  rw [he2] at h1
  exact lex_tok (by omega) (by rw [hsk]) (by rw [hsk]; show i ≠ s.size; have := ha.1; omega) (by rw [hsk]; exact h1)
/-- White space ahead is passed over. -/
theorem lex_space {s : ByteArray} {i : Nat} {ts : List T} (hi : i + 1 < s.size) (hw : isWhite (at8 s i) = true) (hn : isWhite (at8 s (i + 1)) = false) (h1 : (at8 s (i + 1)).toNat ≠ 37 ∧ (at8 s (i + 1)).toNat ≠ 47) (j : Nat) (t : T) (ho : oneTo s (i + 1) i ts = .tok j t) : lexTo s i ts = lexTo s j (ts ++ [t]) := by
  have hr : runTo isWhite s i = i + 1 := runTo_eq (by omega) (by omega) (.inr hn) fun k h1 h2 => by
    obtain rfl : k = i := by omega
    exact hw
  have hsk := skip_to hr (.inr h1)
  exact lex_tok (by omega) (by rw [hsk]) (by rw [hsk]; show i + 1 ≠ s.size; omega) (by rw [hsk]; exact ho)
theorem lex_two {a b : ByteArray} (ha : LowerP a) (hb : LowerP b) (hla : a.size ≤ 200) (hlb : b.size ≤ 200) : lexTo (a ++ ⟨#[32]⟩ ++ b) 0 [] = ⟨[⟨1, a, 0, 0, 0, 0⟩, ⟨1, b, 0, 0, 0, ((a.size + 1 : Nat) : Int)⟩], 0, 0⟩ := by
  obtain ⟨s, hs⟩ : ∃ s, s = a ++ ⟨#[32]⟩ ++ b := ⟨_, rfl⟩
  have z : (⟨#[32]⟩ : ByteArray).size = 1 := rfl
  have hz : s.size = a.size + 1 + b.size := by rw [hs, ByteArray.size_append, ByteArray.size_append]; rfl
  have s1 : ∀ k, k < a.size → at8 s (0 + k) = at8 a k := fun k hk => by rw [hs, Nat.zero_add, at8_left (by rw [ByteArray.size_append]; omega), at8_left hk]
  have s2 : at8 s (0 + a.size) = 32 := by
    rw [hs, Nat.zero_add, at8_left (by rw [ByteArray.size_append, z]; omega), at8_right (Nat.le_refl _), Nat.sub_self]; rfl
  have s3 : ∀ k, k < b.size → at8 s (a.size + 1 + k) = at8 b k := fun k hk => by rw [hs, at8_right (by rw [ByteArray.size_append, z]; omega), ByteArray.size_append, z, show a.size + 1 + k - (a.size + 1) = k by omega]
  rw [← hs, lex_small ha hla (by omega) s1 (.inr (by rw [s2]; decide))]
  have h0 := hb.2 0 hb.1
  have hk0 := s3 0 hb.1
  rw [Nat.add_zero] at hk0
  have hk := kinds_ _ h0
  rw [← hk0] at hk h0
  have hR : runTo isWordy s (a.size + 1) = s.size := runTo_eq (by omega) (Nat.le_refl _) (.inl rfl) fun k h1 h2 => by
    have := s3 (k - (a.size + 1)) (by omega)
    rw [show a.size + 1 + (k - (a.size + 1)) = k by omega] at this
    rw [this]; exact (kinds_ _ (hb.2 _ (by omega))).2.1
  have he2 : s.extract (a.size + 1) s.size = b := ext_is (by omega) (Nat.le_refl _) s3
  rw [Nat.zero_add] at s2 ⊢
  have h1 := one_small (m := a.size) (ts := [] ++ [(⟨1, a, 0, 0, 0, ((0 : Nat) : Int)⟩ : T)]) h0 hR (by rw [he2]; exact hlb)
  rw [he2] at h1
  rw [lex_space (by have := hb.1; omega) (by rw [s2]; decide) hk.2.2.1 hk.2.2.2 _ _ h1, lex_stop]
  rfl
theorem lower_app {a b : ByteArray} (ha : LowerP a) (hb : LowerP b) : LowerP (a ++ b) := by
  refine ⟨by rw [ByteArray.size_append]; have := ha.1; omega, fun k hk => ?_⟩
  rw [ByteArray.size_append] at hk
  by_cases h : k < a.size
  · rw [at8_left h]; exact ha.2 k h
  · rw [at8_right (by omega)]; exact hb.2 _ (by omega)
theorem lex_one {a : ByteArray} (ha : LowerP a) (hla : a.size ≤ 200) : lexTo a 0 [] = ⟨[⟨1, a, 0, 0, 0, 0⟩], 0, 0⟩ := by
  rw [lex_small ha hla (by omega) (fun k hk => by rw [Nat.zero_add]) (.inl (by omega)), Nat.zero_add, lex_stop]
  rfl
theorem lex_call {a b : ByteArray} (ha : LowerP a) (hb : LowerP b) (hla : a.size ≤ 200) (hlb : b.size ≤ 200) : lexTo (a ++ ⟨#[40]⟩ ++ b ++ ⟨#[41]⟩) 0 [] = ⟨[⟨1, a, 0, 0, 0, 0⟩, ⟨7, ⟨#[]⟩, 0, 0, 0, ((a.size : Nat) : Int)⟩, ⟨1, b, 0, 0, 0, ((a.size + 1 : Nat) : Int)⟩, ⟨6, ⟨#[41]⟩, 0, 0, 0, ((a.size + 1 + b.size : Nat) : Int)⟩], 0, 0⟩ := by
  obtain ⟨s, hs⟩ : ∃ s, s = a ++ ⟨#[40]⟩ ++ b ++ ⟨#[41]⟩ := ⟨_, rfl⟩
  have z : (⟨#[40]⟩ : ByteArray).size = 1 := rfl
  have z1 : (⟨#[41]⟩ : ByteArray).size = 1 := rfl
  have hz : s.size = a.size + 1 + b.size + 1 := by rw [hs, ByteArray.size_append, ByteArray.size_append, ByteArray.size_append]; rfl
  have s1 : ∀ k, k < a.size → at8 s (0 + k) = at8 a k := fun k hk => by
    rw [hs, Nat.zero_add, at8_left (by simp only [ByteArray.size_append]; omega), at8_left (by rw [ByteArray.size_append]; omega), at8_left hk]
  have s2 : at8 s (0 + a.size) = 40 := by
    rw [hs, Nat.zero_add, at8_left (by simp only [ByteArray.size_append, z]; omega), at8_left (by rw [ByteArray.size_append, z]; omega), at8_right (Nat.le_refl _), Nat.sub_self]; rfl
  have s3 : ∀ k, k < b.size → at8 s (a.size + 1 + k) = at8 b k := fun k hk => by
    rw [hs, at8_left (by simp only [ByteArray.size_append, z]; omega), at8_right (by rw [ByteArray.size_append, z]; omega), ByteArray.size_append, z, show a.size + 1 + k - (a.size + 1) = k by omega]
  have s4 : at8 s (a.size + 1 + b.size) = 41 := by
    rw [hs, at8_right (by simp only [ByteArray.size_append, z]; omega)]
    simp only [ByteArray.size_append, z, Nat.sub_self]; rfl
  rw [← hs, lex_small ha hla (by omega) s1 (.inr (by rw [s2]; decide))]
  rw [Nat.zero_add] at s2 ⊢
  have k1 := skip_here (s := s) (i := a.size) (by omega) (by rw [s2]; decide) (by rw [s2]; decide)
  rw [lex_tok (j := a.size + 1) (by omega) (by rw [k1]) (by rw [k1]; show a.size ≠ s.size; omega) (by rw [k1]; exact one_open s2 (by rw [openP_snoc]; simp))]
  rw [lex_small hb hlb (by omega) s3 (.inr (by rw [s4]; decide))]
  have k2 := skip_here (s := s) (i := a.size + 1 + b.size) (by omega) (by rw [s4]; decide) (by rw [s4]; decide)
  have h2 := one_punct (s := s) (i := a.size + 1 + b.size) (m := a.size + 1 + b.size) (ts := [] ++ [(⟨1, a, 0, 0, 0, ((0 : Nat) : Int)⟩ : T)] ++ [⟨7, ⟨#[]⟩, 0, 0, 0, ((a.size : Nat) : Int)⟩] ++ [⟨1, b, 0, 0, 0, ((a.size + 1 : Nat) : Int)⟩]) (by rw [s4]; decide) (fun q => by rw [s4] at q; cases q)
  rw [s4] at h2
  rw [lex_tok (j := a.size + 1 + b.size + 1) (by omega) (by rw [k2]) (by rw [k2]; show a.size + 1 + b.size ≠ s.size; omega) (by rw [k2]; exact h2), ← hz, lex_stop]
  rfl
end Go.Proofs.YtenpnejkgopghaaDoor.Tok
