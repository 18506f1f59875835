/- The words of tokens by places in a text. No program in sight. -/
import Derived.Test.YtenpnejkgopghaaDoorTokP
namespace Go.Proofs.YtenpnejkgopghaaDoor.Tok
open Go Go.RowKit

/-- A byte of a text. -/
def at8 (s : ByteArray) (i : Nat) : UInt8 := (s[i]?).getD 0
theorem at8_get {s : ByteArray} {i : Nat} (h : i < s.size) : s[i]? = some (at8 s i) := by
  unfold at8
  have e : s[i]? = some s[i] := by simp [h]
  rw [e]; rfl
def notNl (c : UInt8) : Bool := !(c == 10)

/-- The first place from here on whose byte is not such. -/
def runTo (p : UInt8 → Bool) (s : ByteArray) (j : Nat) : Nat := if j < s.size ∧ p (at8 s j) = true then runTo p s (j + 1) else j
termination_by s.size - j
theorem runTo_yes {p : UInt8 → Bool} {s : ByteArray} {j : Nat} (h : j < s.size) (hp : p (at8 s j) = true) : runTo p s j = runTo p s (j + 1) := by
  conv => lhs; unfold runTo
  rw [if_pos ⟨h, hp⟩]
theorem runTo_no {p : UInt8 → Bool} {s : ByteArray} {j : Nat} (h : ¬ (j < s.size ∧ p (at8 s j) = true)) : runTo p s j = j := by
  unfold runTo
  rw [if_neg h]
theorem runTo_ge (p : UInt8 → Bool) (s : ByteArray) (j : Nat) : j ≤ runTo p s j := by
  by_cases h : j < s.size ∧ p (at8 s j) = true
  · rw [runTo_yes h.1 h.2]
    have := runTo_ge p s (j + 1)
    omega
  · rw [runTo_no h]; exact Nat.le_refl _
termination_by s.size - j
theorem runTo_le {p : UInt8 → Bool} {s : ByteArray} {j : Nat} (hj : j ≤ s.size) : runTo p s j ≤ s.size := by
  by_cases h : j < s.size ∧ p (at8 s j) = true
  · rw [runTo_yes h.1 h.2]
    exact runTo_le (by omega)
  · rw [runTo_no h]; exact hj
termination_by s.size - j
/-- What is behind a run. -/
theorem runTo_end (p : UInt8 → Bool) (s : ByteArray) (j : Nat) : ¬ (runTo p s j < s.size ∧ p (at8 s (runTo p s j)) = true) := by
  by_cases h : j < s.size ∧ p (at8 s j) = true
  · rw [runTo_yes h.1 h.2]
    exact runTo_end p s (j + 1)
  · rw [runTo_no h]; exact h
termination_by s.size - j
/-- What is in a run. -/
theorem runTo_in {p : UInt8 → Bool} {s : ByteArray} {j k : Nat} (h1 : j ≤ k) (h2 : k < runTo p s j) : k < s.size ∧ p (at8 s k) = true := by
  by_cases h : j < s.size ∧ p (at8 s j) = true
  · by_cases e : k = j
    · exact e ▸ h
    · rw [runTo_yes h.1 h.2] at h2
      exact runTo_in (j := j + 1) (by omega) h2
  · rw [runTo_no h] at h2; omega
termination_by s.size - j
/-- Where a remark closes, from here on; the text's end: nowhere. -/
def findClose (s : ByteArray) (k : Nat) : Nat := if k + 1 < s.size then (if at8 s k = 42 ∧ at8 s (k + 1) = 47 then k else findClose s (k + 1)) else s.size
termination_by s.size - k
theorem bs_drop8 (s : ByteArray) (i : Nat) (h : i < s.size) : (bs s).drop i = at8 s i :: (bs s).drop (i + 1) := by
  rw [bs_drop s i h]
  congr 1
  unfold at8
  have e : s[i]? = some s[i] := by simp [h]
  rw [e]; rfl
theorem findClose_ge (s : ByteArray) (k : Nat) (hk : k ≤ s.size) : k ≤ findClose s k ∧ findClose s k ≤ s.size := by
  unfold findClose
  split
  · split
    · omega
    · have := findClose_ge s (k + 1) (by omega); omega
  · omega
termination_by s.size - k
/-- What stands where a remark closes. -/
theorem findClose_is (s : ByteArray) (k : Nat) (h : findClose s k < s.size) : findClose s k + 1 < s.size ∧ at8 s (findClose s k) = 42 ∧ at8 s (findClose s k + 1) = 47 := by
  rw [findClose] at h ⊢
  split at h
  · rename_i h1
    rw [if_pos h1]
    split at h
    · rename_i h2
      rw [if_pos h2]; exact ⟨h1, h2⟩
    · rename_i h2
      rw [if_neg h2]; exact findClose_is s (k + 1) h
  · omega
termination_by s.size - k
theorem index_close (s : ByteArray) (k : Nat) (hk : k ≤ s.size) : Lib.index ((bs s).drop k) [42, 47] = if findClose s k < s.size then ((findClose s k - k : Nat) : Int) else -1 := by
  by_cases h : k < s.size
  · rw [bs_drop8 s k h]
    have ih := index_close s (k + 1) (by omega)
    have hge := findClose_ge s (k + 1) (by omega)
    unfold Lib.index
    rw [ih]
    by_cases h1 : k + 1 < s.size
    · rw [bs_drop8 s (k + 1) h1]
      conv => rhs; rw [findClose, if_pos h1]
      by_cases h2 : at8 s k = 42 ∧ at8 s (k + 1) = 47
      · rw [if_pos (by simp [List.isPrefixOf, h2.1, h2.2]), if_pos h2, if_pos h]; simp
      · rw [if_neg (by simp [List.isPrefixOf]; intro a b; exact h2 ⟨a.symm, b.symm⟩), if_neg h2]
        by_cases h3 : findClose s (k + 1) < s.size
        · rw [if_pos h3]
          rw [if_neg (by simp), if_pos h3]
          omega
        · rw [if_neg h3, if_neg h3]
          simp
    · have e : (bs s).drop (k + 1) = [] := by rw [List.drop_eq_nil_iff, bs_length]; omega
      have e2 : findClose s (k + 1) = s.size := by rw [findClose, if_neg (by omega)]
      have e3 : findClose s k = s.size := by rw [findClose, if_neg h1]
      rw [e, e2, e3]
      simp [List.isPrefixOf]
  · have e : (bs s).drop k = [] := by rw [List.drop_eq_nil_iff, bs_length]; omega
    have e3 : findClose s k = s.size := by rw [findClose, if_neg (by omega)]
    rw [e, e3]
    simp [Lib.index]
termination_by s.size - k
theorem bs_extract (s : ByteArray) (k : Nat) : bs (s.extract k s.size) = (bs s).drop k := by
  have h : (s.extract k s.size).data = s.data.extract k s.size := ByteArray.data_extract
  show (s.extract k s.size).data.toList = _
  rw [h, Array.toList_extract, List.extract_eq_take_drop, show s.size = s.data.toList.length from (Array.length_toList).symm, List.take_of_length_le (by simp)]
/-! ### Parts of a text -/
theorem size_sub {s : ByteArray} {a b : Nat} (h : a ≤ b) (hb : b ≤ s.size) : (s.extract a b).size = b - a := by
  simp [ByteArray.size_extract]; omega
theorem sub_sub {s : ByteArray} {a b l h : Nat} (h2 : a + h ≤ b) : (s.extract a b).extract l h = s.extract (a + l) (a + h) := by
  rw [ByteArray.extract_extract]
  congr 1
  omega
theorem at8_sub {s : ByteArray} {a b j p : Nat} (hp : p = a + j) (h : a + j < b) (hb : b ≤ s.size) : (s.extract a b)[j]? = some (at8 s p) := by
  subst hp
  rw [← at8_get (by omega : a + j < s.size)]
  have h1 : j < (s.extract a b).size := by rw [size_sub (by omega) hb]; omega
  have e1 : (s.extract a b)[j]? = some (s.extract a b)[j] := by simp
  have e2 : s[a + j]? = some s[a + j] := by simp
  rw [e1, e2, ByteArray.getElem_extract]
theorem sub_one {s : ByteArray} {a : Nat} (h : a < s.size) : s.extract a (a + 1) = ⟨#[at8 s a]⟩ := by
  apply ByteArray.ext
  apply Array.toList_inj.1
  have h1 : (s.extract a (a + 1)).data = s.data.extract a (a + 1) := ByteArray.data_extract
  rw [h1, Array.toList_extract, List.extract_eq_take_drop]
  have h2 : s.data.toList.drop a = at8 s a :: s.data.toList.drop (a + 1) := bs_drop8 s a h
  rw [h2]; simp
theorem sub_two {s : ByteArray} {a : Nat} (h : a + 1 < s.size) : s.extract a (a + 2) = ⟨#[at8 s a, at8 s (a + 1)]⟩ := by
  apply ByteArray.ext
  apply Array.toList_inj.1
  have h1 : (s.extract a (a + 2)).data = s.data.extract a (a + 2) := ByteArray.data_extract
  rw [h1, Array.toList_extract, List.extract_eq_take_drop]
  have h2 : s.data.toList.drop a = at8 s a :: s.data.toList.drop (a + 1) := bs_drop8 s a (by omega)
  have h3 : s.data.toList.drop (a + 1) = at8 s (a + 1) :: s.data.toList.drop (a + 1 + 1) := bs_drop8 s (a + 1) h
  rw [h2, h3, show a + 2 - a = 2 by omega]; simp
theorem ba_beq (x y : ByteArray) : (x == y) = true ↔ x = y := by
  obtain ⟨x⟩ := x
  obtain ⟨y⟩ := y
  show (x == y) = true ↔ _
  rw [beq_iff_eq]
  constructor
  · rintro rfl; rfl
  · intro h; injection h
theorem sub_eq1 {s : ByteArray} {a b : Nat} {c : UInt8} {n : Int} (hn : (c.toNat : Int) = n) (hb : b = a + 1) (h : a < s.size) : (s.extract a b == ⟨#[c]⟩) = decide (((at8 s a).toNat : Int) = n) := by
  subst hb hn
  rw [sub_one h, Bool.eq_iff_iff, ba_beq, decide_eq_true_eq]
  constructor
  · intro q; injection q with q; injection q with q; injection q with q; rw [q]
  · intro q; rw [show at8 s a = c from UInt8.toNat_inj.1 (by omega)]
theorem sub_eq2 {s : ByteArray} {a a1 b : Nat} {c d : UInt8} {n m : Int} (hn : (c.toNat : Int) = n) (hm : (d.toNat : Int) = m) (ha : a1 = a + 1) (hb : b = a + 2) (h : a + 1 < s.size) : (s.extract a b == ⟨#[c, d]⟩) = (decide (((at8 s a).toNat : Int) = n) && decide (((at8 s a1).toNat : Int) = m)) := by
  subst hb hn hm ha
  rw [sub_two h, Bool.eq_iff_iff, ba_beq, Bool.and_eq_true, decide_eq_true_eq, decide_eq_true_eq]
  constructor
  · intro q; injection q with q; injection q with q; injection q with q r; injection r with r; rw [q, r]; exact ⟨rfl, rfl⟩
  · rintro ⟨q, r⟩; rw [show at8 s a = c from UInt8.toNat_inj.1 (by omega), show at8 s (a + 1) = d from UInt8.toNat_inj.1 (by omega)]
theorem sub_eq0 {s : ByteArray} {a b : Nat} (h : b = a) : (s.extract a b == ⟨#[]⟩) = true := by
  subst h
  rw [ba_beq]
  exact ByteArray.size_eq_zero_iff.1 (by simp)
theorem sub_ne0 {s : ByteArray} {a b : Nat} (h : a < b) (hb : b ≤ s.size) : (s.extract a b == ⟨#[]⟩) = false := by
  rw [Bool.eq_false_iff, Ne, ba_beq]
  intro q
  have h1 := size_sub (s := s) (Nat.le_of_lt h) hb
  rw [q] at h1
  have h2 : (⟨#[]⟩ : ByteArray).size = 0 := rfl
  omega
theorem sub_cast {s : ByteArray} {a b a' b' : Nat} (h1 : a = a') (h2 : b = b') : Value.string (s.extract a b) = Value.string (s.extract a' b') := by subst h1 h2; rfl
theorem int_cast {n m : Nat} (h : n = m) : Value.int .i64 ((n : Nat) : Int) = Value.int .i64 ((m : Nat) : Int) := by subst h; rfl
/-! ### White space and remarks -/
/-- One round: on from another place, or here is the end (false: a remark that does not end). -/
def skipStep (s : ByteArray) (i : Nat) : Nat ⊕ (Nat × Bool) :=
  if runTo isWhite s i < s.size ∧ (at8 s (runTo isWhite s i)).toNat = 37 then .inl (runTo notNl s (runTo isWhite s i))
  else if runTo isWhite s i + 1 < s.size ∧ (at8 s (runTo isWhite s i)).toNat = 47 ∧ (at8 s (runTo isWhite s i + 1)).toNat = 42 then
    (if findClose s (runTo isWhite s i + 2) < s.size then .inl (findClose s (runTo isWhite s i + 2) + 2) else .inr (runTo isWhite s i, false))
  else .inr (runTo isWhite s i, true)
theorem skip_pct {s : ByteArray} {i : Nat} (h1 : runTo isWhite s i < s.size) (h2 : (at8 s (runTo isWhite s i)).toNat = 37) : skipStep s i = .inl (runTo notNl s (runTo isWhite s i)) := if_pos ⟨h1, h2⟩
theorem skip_go {s : ByteArray} {i : Nat} (h1 : runTo isWhite s i + 1 < s.size) (h2 : (at8 s (runTo isWhite s i)).toNat = 47) (h3 : (at8 s (runTo isWhite s i + 1)).toNat = 42) (h4 : findClose s (runTo isWhite s i + 2) < s.size) : skipStep s i = .inl (findClose s (runTo isWhite s i + 2) + 2) := by
  unfold skipStep
  rw [if_neg (by omega), if_pos ⟨h1, h2, h3⟩, if_pos h4]
theorem skip_bad {s : ByteArray} {i : Nat} (h1 : runTo isWhite s i + 1 < s.size) (h2 : (at8 s (runTo isWhite s i)).toNat = 47) (h3 : (at8 s (runTo isWhite s i + 1)).toNat = 42) (h4 : ¬ findClose s (runTo isWhite s i + 2) < s.size) : skipStep s i = .inr (runTo isWhite s i, false) := by
  unfold skipStep
  rw [if_neg (by omega), if_pos ⟨h1, h2, h3⟩, if_neg h4]
theorem skip_end {s : ByteArray} {i : Nat} (h1 : ¬ (runTo isWhite s i < s.size ∧ (at8 s (runTo isWhite s i)).toNat = 37)) (h2 : ¬ (runTo isWhite s i + 1 < s.size ∧ (at8 s (runTo isWhite s i)).toNat = 47 ∧ (at8 s (runTo isWhite s i + 1)).toNat = 42)) : skipStep s i = .inr (runTo isWhite s i, true) := by
  unfold skipStep
  rw [if_neg h1, if_neg h2]
theorem skipStep_on {s : ByteArray} {i k : Nat} (hi : i ≤ s.size) (h : skipStep s i = .inl k) : i < k ∧ k ≤ s.size := by
  have h1 := runTo_ge isWhite s i
  have h2 := runTo_le (p := isWhite) hi
  unfold skipStep at h
  split at h
  · rename_i hc
    injection h with h
    subst h
    have hp : notNl (at8 s (runTo isWhite s i)) = true := by
      unfold notNl
      have : at8 s (runTo isWhite s i) ≠ 10 := fun e => by rw [e] at hc; exact absurd hc.2 (by decide)
      simpa using this
    rw [runTo_yes hc.1 hp]
    have h3 := runTo_ge notNl s (runTo isWhite s i + 1)
    have h4 := runTo_le (p := notNl) (s := s) (j := runTo isWhite s i + 1) (by omega)
    omega
  · split at h
    · rename_i hc
      split at h
      · rename_i hf
        injection h with h
        subst h
        have h3 := findClose_ge s (runTo isWhite s i + 2) (by omega)
        have h4 := findClose_is s _ hf
        omega
      · cases h
    · cases h
/-- Where white space and remarks end; false: one does not end. -/
def skipTo (s : ByteArray) (i : Nat) : Nat × Bool := match skipStep s i with
  | .inl k => if i < k ∧ k ≤ s.size then skipTo s k else (k, true)
  | .inr r => r
termination_by s.size - i
theorem skipTo_on {s : ByteArray} {i k : Nat} (hi : i ≤ s.size) (h : skipStep s i = .inl k) : skipTo s i = skipTo s k := by
  conv => lhs; unfold skipTo
  rw [h]
  exact if_pos (skipStep_on hi h)
theorem skipTo_end {s : ByteArray} {i : Nat} {r : Nat × Bool} (h : skipStep s i = .inr r) : skipTo s i = r := by
  unfold skipTo
  rw [h]
/-! ### Quoted names -/
/-- One round of a quoted name: it ends badly; it ends here; on from another place, with a byte more. -/
def quoStep (s : ByteArray) (j : Nat) : Option (Option (Nat × UInt8)) :=
  if s.size ≤ j ∨ (at8 s j).toNat = 10 then none
  else if (at8 s j).toNat = 39 then (if j + 1 < s.size ∧ (at8 s (j + 1)).toNat = 39 then some (some (j + 2, 39)) else some none)
  else if (at8 s j).toNat = 92 then
    (if j + 1 < s.size ∧ (at8 s (j + 1)).toNat = 92 then some (some (j + 2, 92))
     else if j + 1 < s.size ∧ (at8 s (j + 1)).toNat = 110 then some (some (j + 2, 10))
     else if j + 1 < s.size ∧ (at8 s (j + 1)).toNat = 39 then some (some (j + 2, 39)) else none)
  else some (some (j + 1, at8 s j))
theorem quoStep_on {s : ByteArray} {j k : Nat} {c : UInt8} (h : quoStep s j = some (some (k, c))) : j < k ∧ k ≤ s.size := by
  unfold quoStep at h
  repeat' split at h
  all_goals first | (cases h; done) | (cases h; omega)
/-- A quoted name, from a place on: where its mark is, its text. -/
def quoTo (s : ByteArray) (j : Nat) (b : ByteArray) : Option (Nat × ByteArray) := match quoStep s j with
  | none => none
  | some none => some (j, b)
  | some (some (k, c)) => if j < k ∧ k ≤ s.size then quoTo s k (b.push c) else none
termination_by s.size - j
theorem quoTo_on {s : ByteArray} {j k : Nat} {b : ByteArray} {c : UInt8} (h : quoStep s j = some (some (k, c))) : quoTo s j b = quoTo s k (b.push c) := by
  conv => lhs; unfold quoTo
  rw [h]
  exact if_pos (quoStep_on h)
theorem quoTo_bad {s : ByteArray} {j : Nat} {b : ByteArray} (h : quoStep s j = none) : quoTo s j b = none := by
  unfold quoTo; rw [h]
theorem quoTo_end {s : ByteArray} {j : Nat} {b : ByteArray} (h : quoStep s j = some none) : quoTo s j b = some (j, b) := by
  unfold quoTo; rw [h]
end Go.Proofs.YtenpnejkgopghaaDoor.Tok
