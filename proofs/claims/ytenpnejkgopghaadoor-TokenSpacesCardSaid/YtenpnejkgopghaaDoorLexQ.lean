/- A text's tokens, by places: what is taken at a place, and all of them. No program in sight. -/
import Derived.Test.YtenpnejkgopghaaDoorLexP
import Derived.Test.YtenpnejkgopghaaDoorParP
set_option linter.unusedVariables false
set_option linter.unusedSectionVars false
set_option linter.unusedSimpArgs false
namespace Go.Proofs.YtenpnejkgopghaaDoor.Tok
open Go Go.RowKit Go.Proofs.YtenpnejkgopghaaDoor.Form Go.Proofs.YtenpnejkgopghaaDoor.ParseC
/-- Is there a minus right ahead? -/
def behindP (ts : List T) (i : Nat) : Bool := match ts.getLast? with
  | some t => decide (t.kind = 1) && (t.text == ⟨#[45]⟩) && decide (t.at_ = (i : Int) - 1)
  | none => false
/-- Is there a name right ahead? -/
def openP (ts : List T) (m i : Nat) : Bool := match ts.getLast? with
  | some t => (decide (t.kind = 1) || decide (t.kind = 2)) && decide (m = i)
  | none => false
theorem behindP_snoc (ts : List T) (t : T) (i : Nat) : behindP (ts ++ [t]) i = (decide (t.kind = 1) && (t.text == ⟨#[45]⟩) && decide (t.at_ = (i : Int) - 1)) := by simp [behindP]
theorem openP_snoc (ts : List T) (t : T) (m i : Nat) : openP (ts ++ [t]) m i = ((decide (t.kind = 1) || decide (t.kind = 2)) && decide (m = i)) := by simp [openP]

/-- A token is taken: what is wrong; or the place behind it, and it. -/
inductive Took where
  | bad (e : Int)
  | tok (j : Nat) (t : T)
/-- A token with a name. -/
def nameTo (k : Int) (b : ByteArray) (i j : Nat) : Took := if 200 < b.size then .bad 3 else .tok j ⟨k, b, 0, 0, 0, ((i : Nat) : Int)⟩
/-- The digits of the least number. -/
def leastB : ByteArray := ⟨#[57, 50, 50, 51, 51, 55, 50, 48, 51, 54, 56, 53, 52, 55, 55, 53, 56, 48, 56]⟩
/-- A number: R is where its word ends. -/
def digTo (s : ByteArray) (i R : Nat) (ts : List T) : Took :=
  if i + 1 < R ∧ (at8 s i).toNat = 48 ∧ (at8 s (i + 1)).toNat = 99 then
    (if (parseC (bs (s.extract i R))).2.2 = 0 then .tok (i + 34) ⟨5, ⟨#[]⟩, 0, (parseC (bs (s.extract i R))).1, (parseC (bs (s.extract i R))).2.1, ((i : Nat) : Int)⟩ else .bad (parseC (bs (s.extract i R))).2.2)
  else if (s.extract i R == leastB) = true ∧ behindP ts i = true then .tok R ⟨4, ⟨#[]⟩, -9223372036854775808, 0, 0, ((i : Nat) : Int)⟩
  else if (parseS (bs (s.extract i R))).2 = 0 then .tok R ⟨4, ⟨#[]⟩, (parseS (bs (s.extract i R))).1, 0, 0, ((i : Nat) : Int)⟩
  else .bad (parseS (bs (s.extract i R))).2
/-- Does what stands behind a stop end a clause? -/
def endsP (s : ByteArray) (i : Nat) : Bool := decide (i + 1 = s.size) || isWhite (at8 s (i + 1)) || decide ((at8 s (i + 1)).toNat = 37)
/-- A token; m: where the one ahead ended. -/
def oneTo (s : ByteArray) (i m : Nat) (ts : List T) : Took :=
  if isCap (at8 s i) = true then nameTo 3 (s.extract i (runTo isWordy s i)) i (runTo isWordy s i)
  else if isSmall (at8 s i) = true then nameTo 1 (s.extract i (runTo isWordy s i)) i (runTo isWordy s i)
  else if isDigit (at8 s i) = true then digTo s i (runTo isWordy s i) ts
  else if (at8 s i).toNat = 39 then (match quoTo s (i + 1) ⟨#[]⟩ with | none => .bad 2 | some (j, b) => nameTo 2 b i (j + 1))
  else if (at8 s i).toNat = 33 ∨ (at8 s i).toNat = 59 then nameTo 1 ⟨#[at8 s i]⟩ i (i + 1)
  else if (at8 s i).toNat = 40 ∧ openP ts m i = true then .tok (i + 1) ⟨7, ⟨#[]⟩, 0, 0, 0, ((i : Nat) : Int)⟩
  else if isPunct (at8 s i) = true then .tok (i + 1) ⟨6, ⟨#[at8 s i]⟩, 0, 0, 0, ((i : Nat) : Int)⟩
  else if isSign (at8 s i) = true then
    (if (s.extract i (runTo isSign s i) == ⟨#[46]⟩) = true ∧ endsP s i = true then .tok (i + 1) ⟨8, ⟨#[]⟩, 0, 0, 0, ((i : Nat) : Int)⟩
     else nameTo 1 (s.extract i (runTo isSign s i)) i (runTo isSign s i))
  else .bad 2
theorem nameTo_tok {k : Int} {b : ByteArray} {i j j' : Nat} {t : T} (h : nameTo k b i j = .tok j' t) : j' = j ∧ t = ⟨k, b, 0, 0, 0, ((i : Nat) : Int)⟩ ∧ b.size ≤ 200 := by
  unfold nameTo at h
  split at h
  · cases h
  · injection h with h1 h2
    exact ⟨h1.symm, h2.symm, by omega⟩
theorem nameTo_one (k : Int) (c : UInt8) (i j : Nat) : nameTo k ⟨#[c]⟩ i j = .tok j ⟨k, ⟨#[c]⟩, 0, 0, 0, ((i : Nat) : Int)⟩ := rfl
theorem parseC_ok {l : List UInt8} (h : (parseC l).2.2 = 0) : l.length = 34 := by
  unfold parseC at h
  split at h
  · rename_i h1; exact h1.1
  · cases h
theorem quoTo_le {s : ByteArray} {j k : Nat} {b c : ByteArray} (h : quoTo s j b = some (k, c)) : j ≤ k ∧ k < s.size := by
  unfold quoTo at h
  split at h
  · cases h
  · rename_i e
    injection h with h
    injection h with h1 h2
    subst h1
    refine ⟨Nat.le_refl _, ?_⟩
    unfold quoStep at e
    split at e
    · cases e
    · omega
  · rename_i k' c' e
    split at h
    · have := quoTo_le h
      omega
    · cases h
termination_by s.size - j
theorem word_of {c : UInt8} (h : isCap c = true ∨ isSmall c = true ∨ isDigit c = true) : isWordy c = true := by
  unfold isWordy
  rcases h with h | h | h <;> simp [h]
/-- A token goes on, and not past the text. -/
theorem oneTo_on {s : ByteArray} {i m j : Nat} {ts : List T} {t : T} (hi : i < s.size) (h : oneTo s i m ts = .tok j t) : i < j ∧ j ≤ s.size := by
  have hw : ∀ p : UInt8 → Bool, p (at8 s i) = true → i < runTo p s i ∧ runTo p s i ≤ s.size := fun p hp => by
    have h1 := runTo_ge p s (i + 1)
    have h2 := runTo_le (p := p) (s := s) (j := i) (by omega)
    rw [runTo_yes hi hp] at h2 ⊢
    omega
  unfold oneTo at h
  split at h
  · rename_i h0
    obtain ⟨rfl, _, _⟩ := nameTo_tok h
    exact hw isWordy (word_of (.inl h0))
  split at h
  · rename_i h0
    obtain ⟨rfl, _, _⟩ := nameTo_tok h
    exact hw isWordy (word_of (.inr (.inl h0)))
  split at h
  · rename_i h0
    have h1 := hw isWordy (word_of (.inr (.inr h0)))
    unfold digTo at h
    split at h
    · split at h
      · rename_i h2
        injection h with h3 h4
        have h5 := parseC_ok h2
        rw [bs_length, size_sub (by omega) h1.2] at h5
        omega
      · cases h
    split at h
    · injection h with h3 h4; omega
    split at h
    · injection h with h3 h4; omega
    · cases h
  split at h
  · split at h
    · cases h
    · rename_i e
      obtain ⟨rfl, _, _⟩ := nameTo_tok h
      have := quoTo_le e
      omega
  split at h
  · obtain ⟨rfl, _, _⟩ := nameTo_tok h; omega
  split at h
  · injection h with h3 h4; omega
  split at h
  · injection h with h3 h4; omega
  split at h
  · rename_i h0
    split at h
    · injection h with h3 h4; omega
    · obtain ⟨rfl, _, _⟩ := nameTo_tok h
      exact hw isSign h0
  · cases h
theorem parseC_err (l : List UInt8) : (parseC l).2.2 = 0 ∨ (parseC l).2.2 = 2 := by
  unfold parseC
  split
  · split
    · exact .inl rfl
    · exact .inr rfl
  · exact .inr rfl
/-- What is wrong is an error's number. -/
theorem oneTo_err {s : ByteArray} {i m : Nat} {ts : List T} {e : Int} (h : oneTo s i m ts = .bad e) : e ≠ 0 := by
  have hn : ∀ {k : Int} {b : ByteArray} {i j : Nat}, nameTo k b i j = .bad e → e ≠ 0 := fun {k b i j} h => by
    unfold nameTo at h
    split at h
    · injection h with h; subst h; decide
    · cases h
  unfold oneTo at h
  split at h
  · exact hn h
  split at h
  · exact hn h
  split at h
  · unfold digTo at h
    split at h
    · split at h
      · cases h
      · rename_i h1; injection h with h; rw [← h]; exact h1
    split at h
    · cases h
    split at h
    · cases h
    · rename_i h1; injection h with h; rw [← h]; exact h1
  split at h
  · split at h
    · injection h with h; subst h; decide
    · exact hn h
  split at h
  · exact hn h
  split at h
  · cases h
  split at h
  · cases h
  split at h
  · split at h
    · cases h
    · exact hn h
  · injection h with h; subst h; decide
/-- Of a text from a place on, behind such tokens: all, the place of what is wrong, what is wrong. -/
structure Lexed where
  ts : List T
  at_ : Nat
  e : Int
def lexTo (s : ByteArray) (i : Nat) (ts : List T) : Lexed :=
  if (skipTo s i).2 = false then ⟨[], (skipTo s i).1, 2⟩
  else if (skipTo s i).1 = s.size then ⟨ts, 0, 0⟩
  else match oneTo s (skipTo s i).1 i ts with
    | .bad e => ⟨[], (skipTo s i).1, e⟩
    | .tok j t => if i < j ∧ j ≤ s.size then lexTo s j (ts ++ [t]) else ⟨[], 0, 0⟩
termination_by s.size - i
theorem skipTo_le {s : ByteArray} {i : Nat} (hi : i ≤ s.size) : i ≤ (skipTo s i).1 ∧ (skipTo s i).1 ≤ s.size := by
  have h1 := runTo_ge isWhite s i
  have h2 := runTo_le (p := isWhite) hi
  cases e : skipStep s i with
  | inl k =>
    have h3 := skipStep_on hi e
    rw [skipTo_on hi e]
    have := skipTo_le (s := s) (i := k) h3.2
    omega
  | inr r =>
    rw [skipTo_end e]
    unfold skipStep at e
    split at e
    · cases e
    · split at e
      · split at e
        · cases e
        · injection e with e; subst e; exact ⟨h1, h2⟩
      · injection e with e; subst e; exact ⟨h1, h2⟩
termination_by s.size - i
theorem lex_gap {s : ByteArray} {i : Nat} {ts : List T} (h : (skipTo s i).2 = false) : lexTo s i ts = ⟨[], (skipTo s i).1, 2⟩ := by
  unfold lexTo; rw [if_pos h]
theorem lex_end {s : ByteArray} {i : Nat} {ts : List T} (h : (skipTo s i).2 = true) (h1 : (skipTo s i).1 = s.size) : lexTo s i ts = ⟨ts, 0, 0⟩ := by
  unfold lexTo; rw [if_neg (by rw [h]; decide), if_pos h1]
theorem lex_bad {s : ByteArray} {i : Nat} {ts : List T} {e : Int} (h : (skipTo s i).2 = true) (h1 : (skipTo s i).1 ≠ s.size) (h2 : oneTo s (skipTo s i).1 i ts = .bad e) : lexTo s i ts = ⟨[], (skipTo s i).1, e⟩ := by
  unfold lexTo; rw [if_neg (by rw [h]; decide), if_neg h1, h2]
theorem lex_tok {s : ByteArray} {i j : Nat} {ts : List T} {t : T} (hi : i ≤ s.size) (h : (skipTo s i).2 = true) (h1 : (skipTo s i).1 ≠ s.size) (h2 : oneTo s (skipTo s i).1 i ts = .tok j t) : lexTo s i ts = lexTo s j (ts ++ [t]) := by
  have h3 := skipTo_le hi
  have h4 := oneTo_on (by omega) h2
  conv => lhs; unfold lexTo
  rw [if_neg (by rw [h]; decide), if_neg h1, h2]
  exact if_pos (by omega)
end Go.Proofs.YtenpnejkgopghaaDoor.Tok
