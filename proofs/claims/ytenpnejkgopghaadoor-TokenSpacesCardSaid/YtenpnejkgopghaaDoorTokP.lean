/- The words of tokens: bytes' kinds, and what stands ahead in a text. No program in sight. -/
import Derived.RowKit
import Derived.Lib.Index
import Derived.Lib.Strings
namespace Go.Proofs.YtenpnejkgopghaaDoor.Tok
open Go Go.RowKit

/-- A token. -/
structure T where
  kind : Int
  text : ByteArray
  int : Int
  re : Int
  im : Int
  at_ : Int

def isSmall (c : UInt8) : Bool := decide (97 ≤ c) && decide (c ≤ 122)
def isCap (c : UInt8) : Bool := (decide (65 ≤ c) && decide (c ≤ 90)) || c == 95
def isDigit (c : UInt8) : Bool := decide (48 ≤ c) && decide (c ≤ 57)
def isWordy (c : UInt8) : Bool := isSmall c || isCap c || isDigit c
def isWhite (c : UInt8) : Bool := c == 32 || c == 9 || c == 10 || c == 13
def isSign (c : UInt8) : Bool := [43, 45, 42, 47, 92, 94, 60, 62, 61, 126, 58, 46, 63, 64, 35, 38, 36].contains c
def isPunct (c : UInt8) : Bool := [40, 41, 91, 93, 44, 124].contains c

/-- How many bytes from here on are such. -/
def runLen (p : UInt8 → Bool) (l : List UInt8) : Nat := (l.takeWhile p).length
theorem runLen_nil (p : UInt8 → Bool) : runLen p [] = 0 := rfl
theorem runLen_cons (p : UInt8 → Bool) (c : UInt8) (l : List UInt8) : runLen p (c :: l) = if p c then 1 + runLen p l else 0 := by
  unfold runLen
  rw [List.takeWhile_cons]
  split <;> simp [Nat.add_comm]
theorem runLen_le (p : UInt8 → Bool) (l : List UInt8) : runLen p l ≤ l.length := by
  unfold runLen
  exact (List.takeWhile_prefix p).length_le

/-- The bytes of a text. -/
abbrev bs (s : ByteArray) : List UInt8 := s.data.toList
theorem bs_length (s : ByteArray) : (bs s).length = s.size := Array.length_toList
theorem bs_drop (s : ByteArray) (i : Nat) (h : i < s.size) : (bs s).drop i = s[i] :: (bs s).drop (i + 1) := by
  have h' : i < (bs s).length := by rw [bs_length]; exact h
  rw [List.drop_eq_getElem_cons h']
  rfl
theorem bs_end (s : ByteArray) : (bs s).drop s.size = [] := by
  rw [List.drop_eq_nil_iff, bs_length]; exact Nat.le_refl _

/-- One round over white space and a remark. -/
def passF (rec : List UInt8 → Nat × Bool) (l : List UInt8) : Nat × Bool :=
  if Lib.hasPrefix (l.drop (runLen isWhite l)) [37] = true then
    (runLen isWhite l + runLen (fun c => !(c == 10)) (l.drop (runLen isWhite l)) + (rec ((l.drop (runLen isWhite l)).drop (runLen (fun c => !(c == 10)) (l.drop (runLen isWhite l))))).1,
      (rec ((l.drop (runLen isWhite l)).drop (runLen (fun c => !(c == 10)) (l.drop (runLen isWhite l))))).2)
  else if Lib.hasPrefix (l.drop (runLen isWhite l)) [47, 42] = true then
    if Lib.index ((l.drop (runLen isWhite l)).drop 2) [42, 47] < 0 then (runLen isWhite l, false)
    else (runLen isWhite l + ((Lib.index ((l.drop (runLen isWhite l)).drop 2) [42, 47]).toNat + 4) + (rec ((l.drop (runLen isWhite l)).drop ((Lib.index ((l.drop (runLen isWhite l)).drop 2) [42, 47]).toNat + 4))).1,
      (rec ((l.drop (runLen isWhite l)).drop ((Lib.index ((l.drop (runLen isWhite l)).drop 2) [42, 47]).toNat + 4))).2)
  else (runLen isWhite l, true)

def skipF : Nat → List UInt8 → Nat × Bool
  | 0, _ => (0, true)
  | f + 1, l => passF (skipF f) l

theorem passF_congr {r r' : List UInt8 → Nat × Bool} {l : List UInt8} (h : ∀ k : List UInt8, k.length < l.length → r k = r' k) : passF r l = passF r' l := by
  unfold passF
  generalize runLen isWhite l = n
  have hn : (l.drop n).length ≤ l.length := by simp
  generalize l.drop n = q at *
  split
  · rename_i hp
    obtain ⟨t, rfl⟩ : ∃ t, q = 37 :: t := by
      unfold Lib.hasPrefix at hp
      cases q with
      | nil => simp at hp
      | cons c t => simp at hp; exact ⟨t, by rw [← hp]⟩
    rw [runLen_cons, if_pos (by decide)]
    rw [h _ (by simp at hn ⊢; omega)]
  · split
    · rename_i hp
      have h1 : 2 ≤ q.length := by
        unfold Lib.hasPrefix at hp
        cases q with
        | nil => simp at hp
        | cons c t =>
          cases t with
          | nil => simp at hp
          | cons d t => simp
      split
      · rfl
      · rw [h _ (by simp; omega)]
    · rfl

theorem skipF_fuel : ∀ (f f' : Nat) (l : List UInt8), l.length < f → l.length < f' → skipF f l = skipF f' l
  | 0, _, _, h, _ => by omega
  | _, 0, _, _, h => by omega
  | f + 1, f' + 1, l, h, h' => by
    unfold skipF
    exact passF_congr fun k hk => skipF_fuel f f' k (by omega) (by omega)

/-- How far white space and remarks go, and whether each remark ends. -/
def skip (l : List UInt8) : Nat × Bool := skipF (l.length + 1) l
theorem skip_eq (l : List UInt8) : skip l = passF skip l := by
  unfold skip
  show passF (skipF l.length) l = _
  exact passF_congr fun k hk => skipF_fuel _ _ k (by omega) (by omega)

end Go.Proofs.YtenpnejkgopghaaDoor.Tok
