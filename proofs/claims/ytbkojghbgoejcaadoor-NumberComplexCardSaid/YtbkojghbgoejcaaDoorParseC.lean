/- Proved: number.ParseC and elenchusref1.ParseC answer the same, and read back what TextC writes. Conditions: the text is no longer than the reach. -/
import Derived.Test.YtbkojghbgoejcaaDoorPrB
import Derived.Test.YtbkojghbgoejcaaDoorPut
import Derived.Laws.Strings
import Derived.Lib.IndexBytes
namespace Go.Proofs.YtbkojghbgoejcaaDoor.ParseC
open Go Go.RowKit Go.Proofs.YtbkojghbgoejcaaDoorW.PrintWords Go.Proofs.YtbkojghbgoejcaaDoorW.PrintLast Go.Proofs.YtbkojghbgoejcaaDoor.Pr
set_option linter.unusedVariables false

theorem drop_cons (d : ByteArray) (i : Nat) (h : i < d.size) : ∃ c, d.data.toList.drop i = c :: d.data.toList.drop (i + 1) ∧ bt d (i : Int) = (c.toNat : Int) := by
  have hl : d.data.toList.length = d.size := by cases d; rfl
  refine ⟨d.data.toList[i]'(by omega), List.drop_eq_getElem_cons (by omega), ?_⟩
  unfold bt
  rw [dif_pos (by simpa using h)]
  rfl
theorem wrap_next (i n : Nat) (h : i < n) (hn : n ≤ 140737488351232) : wrap64 ((i : Int) + 1) = ((i + 1 : Nat) : Int) := by unfold wrap64; omega

/-- A digit's worth. -/
def hx (c : UInt8) : Option Nat := if 48 ≤ c.toNat ∧ c.toNat ≤ 57 then some (c.toNat - 48) else if 97 ≤ c.toNat ∧ c.toNat ≤ 102 then some (c.toNat - 87) else none
theorem hx_lt {c : UInt8} {d : Nat} (h : hx c = some d) : d < 16 := by
  unfold hx at h
  split at h
  · cases h; omega
  · split at h
    · cases h; omega
    · cases h
/-- The word of digits, the ones ahead being worth acc. -/
def wordL (acc : Nat) : List UInt8 → Option Nat
  | [] => some acc
  | c :: r => match hx c with
    | some d => wordL ((acc * 16 + d) % 18446744073709551616) r
    | none => none
theorem wordL_some {acc : Nat} {c : UInt8} {r : List UInt8} {d : Nat} (h : hx c = some d) : wordL acc (c :: r) = wordL ((acc * 16 + d) % 18446744073709551616) r := by
  rw [wordL, h]
theorem wordL_none {acc : Nat} {c : UInt8} {r : List UInt8} (h : hx c = none) : wordL acc (c :: r) = none := by
  rw [wordL, h]
def ofWord : Option Nat → Int × Bool
  | some v => (v, true)
  | none => (0, false)

theorem or_low (a d : Nat) (hd : d < 16) : Go.bits .or .u64 (IntKind.u64.wrap ((a : Int) * 16)) (d : Int) = (((a * 16 + d) % 18446744073709551616 : Nat) : Int) := by
  have ew (x : Int) : IntKind.u64.wrap x = x % 18446744073709551616 := rfl
  rw [ew]
  unfold Go.bits
  obtain ⟨m, hm⟩ : ∃ m : Nat, ((a : Int) * 16 % 18446744073709551616) = (m : Int) ∧ m = a * 16 % 18446744073709551616 := ⟨_, by omega, rfl⟩
  rw [hm.1]
  have e : ((BitVec.ofInt 64 (m : Int)) ||| (BitVec.ofInt 64 (d : Int))).toNat = m + d := by
    rw [BitVec.toNat_or]
    have h1 : (BitVec.ofInt 64 (m : Int)).toNat = m := by simp; omega
    have h2 : (BitVec.ofInt 64 (d : Int)).toNat = d := by simp; omega
    rw [h1, h2]
    have h3 : m = 16 * (m / 16) := by omega
    have h4 := Nat.two_pow_add_eq_or_of_lt (i := 4) (b := d) (by omega) (m / 16)
    rw [show (2 : Nat) ^ 4 = 16 from rfl] at h4
    rw [h3, ← h4]
  show IntKind.u64.wrap (((BitVec.ofInt 64 (m : Int)) ||| (BitVec.ofInt 64 (d : Int))).toNat : Int) = _
  rw [e, ew]
  omega

theorem word_l0 (s : ByteArray) (hs : s.size ≤ 140737488351232) : ∀ (m : Nat) (i acc : Nat) (k : Nat), s.size - i = m → i ≤ s.size → 2 * m + 1 ≤ k →
    number_word.l0 k s (acc : Int) (s.size : Int) (i : Int) = some (ofWord (wordL acc (s.data.toList.drop i))) := by
  have hl : s.data.toList.length = s.size := by cases s; rfl
  intro m
  induction m with
  | zero =>
    intro i acc k hm hi hk
    obtain ⟨k, rfl⟩ : ∃ q, k = q + 1 := ⟨k - 1, by omega⟩
    rw [List.drop_eq_nil_of_le (by omega)]
    simp only [number_word.l0]
    rw [if_neg (by omega)]
    rfl
  | succ m ih =>
    intro i acc k hm hi hk
    obtain ⟨k, rfl⟩ : ∃ q, k = q + 2 := ⟨k - 2, by omega⟩
    obtain ⟨c, hc, hb⟩ := drop_cons s i (by omega)
    have go : ∀ d, hx c = some d → number_word.l0 k s (((acc * 16 + d) % 18446744073709551616 : Nat) : Int) (s.size : Int) (wrap64 ((i : Int) + 1)) = some (ofWord (wordL acc (s.data.toList.drop i))) := by
      intro d hd
      rw [wrap_next i s.size (by omega) hs, ih (i + 1) _ k (by omega) (by omega) (by omega), hc, wordL_some hd]
    have no : hx c = none → some (0, false) = some (ofWord (wordL acc (s.data.toList.drop i))) := by
      intro hd
      rw [hc, wordL_none hd]; rfl
    simp only [number_word.l0, number_word.j1]
    rw [if_pos (by omega), if_pos (by omega), if_pos (by omega), hb]
    by_cases h1 : (c.toNat : Int) ≥ 48
    · rw [if_pos h1]
      by_cases h2 : (c.toNat : Int) ≤ 57
      · rw [if_pos (by simpa using h2)]
        have hd : hx c = some (c.toNat - 48) := by unfold hx; rw [if_pos (by omega)]
        rw [show ((c.toNat : Int) - 48) % 256 = ((c.toNat - 48 : Nat) : Int) by omega, or_low _ _ (hx_lt hd)]
        exact go _ hd
      · rw [if_neg (by simpa using h2)]
        by_cases h3 : (c.toNat : Int) ≥ 97
        · rw [if_pos h3]
          by_cases h4 : (c.toNat : Int) ≤ 102
          · rw [if_pos h4]
            have hd : hx c = some (c.toNat - 87) := by unfold hx; rw [if_neg (by omega), if_pos (by omega)]
            rw [show (((c.toNat : Int) - 97) % 256 + 10) % 256 = ((c.toNat - 87 : Nat) : Int) by omega, or_low _ _ (hx_lt hd)]
            exact go _ hd
          · rw [if_neg h4]
            exact no (by unfold hx; rw [if_neg (by omega), if_neg (by omega)])
        · rw [if_neg h3]
          exact no (by unfold hx; rw [if_neg (by omega), if_neg (by omega)])
    · rw [if_neg h1, if_neg (by simp), if_neg (by omega)]
      exact no (by unfold hx; rw [if_neg (by omega), if_neg (by omega)])

theorem unhex_same : ∀ k, (∀ a b c d, elenchusref1_unhex.l0 k a b c d = number_word.l0 k a b c d) ∧ (∀ a b c d e f, elenchusref1_unhex.j1 k a b c d e f = number_word.j1 k a b c d e f)
  | 0 => ⟨fun _ _ _ _ => rfl, fun _ _ _ _ _ _ => rfl⟩
  | k + 1 => by
    obtain ⟨h1, h2⟩ := unhex_same k
    constructor
    · intro a b c d; simp only [elenchusref1_unhex.l0, number_word.l0, h2]
    · intro a b c d e f; simp only [elenchusref1_unhex.j1, number_word.j1, h1]
theorem unhex_eq (k : Nat) (s : ByteArray) : elenchusref1_unhex.f k s = number_word.f k s := (unhex_same k).1 _ _ _ _
theorem word_eq (s : ByteArray) (hs : s.size ≤ 140737488351232) (k : Nat) (hk : 2 * s.size + 1 ≤ k) : number_word.f k s = some (ofWord (wordL 0 s.data.toList)) := by
  have := word_l0 s hs s.size 0 0 k (by omega) (by omega) hk
  rw [List.drop_zero] at this
  exact this

theorem head_eq (s : ByteArray) (h : 2 ≤ s.size) : (s.extract 0 2).toList = s.data.toList.take 2 := by
  rw [ByteArray.toList_eq]
  simp

/-- What both ParseC answer. -/
def parseC (l : List UInt8) : Int × Int × Int :=
  if l.length = 34 ∧ l.take 2 = [48, 99] then
    (match wordL 0 ((l.drop 2).take 16), wordL 0 (l.drop 18) with
     | some a, some b => ((a : Int), (b : Int), 0)
     | _, _ => (0, 0, 2))
  else (0, 0, 2)

theorem extract_mid (s : ByteArray) (a b : Nat) (h : a ≤ b) (hb : b ≤ s.size) : (s.extract a b).data.toList = (s.data.toList.drop a).take (b - a) := by
  simp [List.extract_eq_take_drop]

theorem parseC_num (s : ByteArray) (hs : s.size ≤ 140737488351232) : ∃ k, number_ParseC.f k s = some ((parseC s.data.toList).1, (parseC s.data.toList).2.1, (parseC s.data.toList).2.2) := by
  have hl : s.data.toList.length = s.size := by cases s; rfl
  refine ⟨100, ?_⟩
  unfold number_ParseC.f strings_CutPrefix.f stringslite_CutPrefix.f stringslite_HasPrefix.f
  have e2 : ((⟨#[48, 99]⟩ : ByteArray).size : Int) = 2 := rfl
  have e3 : (⟨#[48, 99]⟩ : ByteArray).toList = [48, 99] := by rw [ByteArray.toList_eq]
  have e4 : ((2 : Int)).toNat = 2 := rfl
  simp only [e2, e3, e4]
  unfold parseC
  by_cases h2 : s.size < 2
  · have hc : ¬ (s.data.toList.length = 34 ∧ s.data.toList.take 2 = [48, 99]) := fun h => by have := h.1; omega
    rw [if_neg (by omega), if_neg hc]
    simp only [Option.bind_some, Bool.false_eq_true, if_false, number_ParseC.j0, if_true]
  · rw [if_pos (by omega), if_pos (by omega), if_pos (by omega), head_eq s (by omega)]
    simp only [Option.bind_some]
    by_cases hp : s.data.toList.take 2 = [48, 99]
    · rw [hp]
      simp only [BEq.rfl, if_true]
      rw [if_pos (by omega), if_pos (by omega)]
      simp only [Option.bind_some, if_true]
      have ez : (s.extract 2 s.size).size = s.size - 2 := by simp
      simp only [number_ParseC.j0]
      by_cases h34 : s.size = 34
      · rw [if_neg (by simp [h34])]
        rw [if_pos (by omega), if_pos (by omega)]
        rw [word_eq _ (by simp; omega) _ (by simp; omega), word_eq _ (by simp; omega) _ (by simp; omega)]
        have w1 : ((s.extract 2 s.size).extract 0 16).data.toList = (s.data.toList.drop 2).take 16 := by
          rw [extract_mid _ 0 16 (by omega) (by omega), extract_mid s 2 s.size (by omega) (by omega), List.drop_zero, List.take_take]
          congr 1; omega
        have w2 : ((s.extract 2 s.size).extract 16 (s.extract 2 s.size).size).data.toList = s.data.toList.drop 18 := by
          rw [extract_mid _ 16 _ (by omega) (by omega), extract_mid s 2 s.size (by omega) (by omega), List.take_of_length_le (by simp), List.take_of_length_le (by simp), List.drop_drop]
        rw [w1, w2, if_pos ⟨by omega, trivial⟩]
        cases wordL 0 ((s.data.toList.drop 2).take 16) <;> cases wordL 0 (s.data.toList.drop 18) <;> simp [ofWord]
      · have hc : ¬ (s.data.toList.length = 34 ∧ True) := fun h => by have := h.1; omega
        rw [if_pos (by simp; omega), if_neg hc]
    · have hb : (s.data.toList.take 2 == [48, 99]) = false := by simpa using hp
      rw [hb]
      simp only [Bool.false_eq_true, if_false, Option.bind_some, number_ParseC.j0, if_true]
      rw [if_neg (fun h => hp h.2)]

theorem parseC_ref (s : ByteArray) (hs : s.size ≤ 140737488351232) : ∃ k, elenchusref1_ParseC.f k s = some ((parseC s.data.toList).1, (parseC s.data.toList).2.1, (parseC s.data.toList).2.2) := by
  have hl : s.data.toList.length = s.size := by cases s; rfl
  refine ⟨100, ?_⟩
  unfold elenchusref1_ParseC.f
  unfold parseC
  by_cases h34 : s.size = 34
  · rw [if_pos (by omega), if_pos (by omega), if_pos (by omega), head_eq s (by omega)]
    simp only [elenchusref1_ParseC.j0]
    by_cases hp : s.data.toList.take 2 = [48, 99]
    · rw [if_neg (by simp [hp]), if_pos (by omega), if_pos (by omega), unhex_eq, unhex_eq, word_eq _ (by simp; omega) _ (by simp; omega), word_eq _ (by simp; omega) _ (by simp; omega)]
      have w1 : (s.extract 2 18).data.toList = (s.data.toList.drop 2).take 16 := extract_mid s 2 18 (by omega) (by omega)
      have w2 : (s.extract 18 s.size).data.toList = s.data.toList.drop 18 := by
        rw [extract_mid s 18 s.size (by omega) (by omega), List.take_of_length_le (by simp)]
      rw [w1, w2, if_pos ⟨by omega, hp⟩]
      cases wordL 0 ((s.data.toList.drop 2).take 16) <;> cases wordL 0 (s.data.toList.drop 18) <;> simp [ofWord]
    · rw [if_pos (by simpa using hp), if_neg (fun h => hp h.2)]
  · have hc : ¬ (s.data.toList.length = 34 ∧ s.data.toList.take 2 = [48, 99]) := fun h => by have := h.1; omega
    rw [if_neg (by omega), if_neg hc]
    simp only [elenchusref1_ParseC.j0, if_true]
end Go.Proofs.YtbkojghbgoejcaaDoor.ParseC
