/- A name, quoted, is one token. No program in sight. -/
import Derived.Test.YtenpnejkgopghaaDoorQuoP
set_option linter.unusedVariables false
set_option linter.unusedSectionVars false
set_option linter.unusedSimpArgs false
set_option maxRecDepth 100000
namespace Go.Proofs.YtenpnejkgopghaaDoor.Tok
open Go Go.RowKit
theorem push_app (b : ByteArray) (c : UInt8) : b.push c = b ++ ⟨#[c]⟩ := by
  apply ByteArray.ext
  rw [ByteArray.data_append]
  rfl
theorem at8_push (b : ByteArray) (c : UInt8) (k : Nat) : at8 (b.push c) k = if k < b.size then at8 b k else if k = b.size then c else 0 := by
  rw [push_app, at8_app]
  by_cases h : k < b.size
  · rw [if_pos h, if_pos h]
  · rw [if_neg h, if_neg h]
    by_cases e : k = b.size
    · subst e
      rw [if_pos rfl, Nat.sub_self]; rfl
    · rw [if_neg e, at8_out (by show 1 ≤ _; omega)]
theorem push_left {b : ByteArray} {c : UInt8} {k : Nat} (h : k < b.size) : at8 (b.push c) k = at8 b k := by rw [at8_push, if_pos h]
theorem push_last {b : ByteArray} {c : UInt8} : at8 (b.push c) b.size = c := by rw [at8_push, if_neg (Nat.lt_irrefl _), if_pos rfl]
theorem esc_left {b : ByteArray} {c : UInt8} {k : Nat} (h : k < b.size) : at8 (escB b c) k = at8 b k := by
  have h2 : ∀ x y : UInt8, at8 ((b.push x).push y) k = at8 b k := fun x y => by rw [push_left (by rw [ByteArray.size_push]; omega), push_left h]
  unfold escB
  split
  · exact h2 _ _
  split
  · exact h2 _ _
  split
  · exact h2 _ _
  · exact push_left h
theorem esc_gt (b : ByteArray) (c : UInt8) : b.size < (escB b c).size := by
  unfold escB
  split
  · simp [ByteArray.size_push]; omega
  split
  · simp [ByteArray.size_push]; omega
  split
  · simp [ByteArray.size_push]; omega
  · simp [ByteArray.size_push]
theorem quoteTo_left (s : ByteArray) : ∀ (n j : Nat) (b : ByteArray), s.size - j ≤ n → b.size < (quoteTo s j b).size ∧ ∀ k, k < b.size → at8 (quoteTo s j b) k = at8 b k
  | n, j, b, hn => by
    by_cases h : j < s.size
    · rw [quoteTo_on h]
      cases n with
      | zero => omega
      | succ n =>
        obtain ⟨h1, h2⟩ := quoteTo_left s n (j + 1) (escB b (at8 s j)) (by omega)
        have h3 := esc_gt b (at8 s j)
        exact ⟨by omega, fun k hk => by rw [h2 k (by omega), esc_left hk]⟩
    · rw [quoteTo_end h]
      exact ⟨by rw [ByteArray.size_push]; omega, fun k hk => push_left hk⟩
theorem push_ext {s a : ByteArray} {j : Nat} {c : UInt8} (hj : j < s.size) (ha : a = s.extract 0 j) (hc : c = at8 s j) : a.push c = s.extract 0 (j + 1) := by
  have hz : a.size = j := by rw [ha, size_sub (Nat.zero_le _) (by omega)]; omega
  refine text_ext (by rw [ByteArray.size_push, size_sub (Nat.zero_le _) (by omega)]; omega) fun k hk => ?_
  rw [ByteArray.size_push] at hk
  rw [at8_ext (by omega) (by omega), Nat.zero_add, at8_push]
  by_cases h : k < a.size
  · rw [if_pos h, ha, at8_ext (by omega) (by omega), Nat.zero_add]
  · rw [if_neg h, if_pos (by omega), hc, show k = j by omega]
theorem quo_reads {s q : ByteArray} : ∀ (n j : Nat) (pre a : ByteArray), s.size - j ≤ n → j ≤ s.size → a = s.extract 0 j → q = quoteTo s j pre → quoTo q pre.size a = some (q.size - 1, s)
  | n, j, pre, a, hn, hj, ha, hq => by
    by_cases h : j < s.size
    · obtain ⟨c, hc⟩ : ∃ c, at8 s j = c := ⟨_, rfl⟩
      rw [quoteTo_on h, hc] at hq
      obtain ⟨l1, l2⟩ := quoteTo_left s (s.size - (j + 1)) (j + 1) (escB pre c) (Nat.le_refl _)
      rw [← hq] at l1 l2
      have hgt := esc_gt pre c
      cases n with
      | zero => omega
      | succ n =>
        have two : ∀ x : UInt8, escB pre c = (pre.push 92).push x → at8 q pre.size = 92 ∧ at8 q (pre.size + 1) = x ∧ pre.size + 2 < q.size := fun x hx => by
          rw [hx] at l1 l2
          simp only [ByteArray.size_push] at l1 l2
          refine ⟨?_, ?_, by omega⟩
          · rw [l2 _ (by omega), push_left (by rw [ByteArray.size_push]; omega), push_last]
          · rw [l2 _ (by omega)]
            have := push_last (b := pre.push 92) (c := x)
            rwa [ByteArray.size_push] at this
        by_cases h92 : c.toNat = 92
        · have hx : escB pre c = (pre.push 92).push 92 := by unfold escB; rw [if_pos h92]
          obtain ⟨b1, b2, b3⟩ := two 92 hx
          have hs : quoStep q pre.size = some (some (pre.size + 2, 92)) := by
            unfold quoStep
            rw [b1, b2, if_neg (by rintro (h | h); omega; exact absurd h (by decide)), if_neg (by decide), if_pos (by decide), if_pos ⟨by omega, by decide⟩]
          rw [quoTo_on hs]
          have ih := quo_reads n (j + 1) (escB pre c) (a.push 92) (by omega) (by omega) (push_ext h ha (by rw [hc]; exact UInt8.toNat_inj.1 (by rw [h92]; rfl))) hq
          rw [hx] at ih
          simpa [ByteArray.size_push] using ih
        · by_cases h10 : c.toNat = 10
          · have hx : escB pre c = (pre.push 92).push 110 := by unfold escB; rw [if_neg h92, if_pos h10]
            obtain ⟨b1, b2, b3⟩ := two 110 hx
            have hs : quoStep q pre.size = some (some (pre.size + 2, 10)) := by
              unfold quoStep
              rw [b1, b2, if_neg (by rintro (h | h); omega; exact absurd h (by decide)), if_neg (by decide), if_pos (by decide), if_neg (by rintro ⟨_, h⟩; exact absurd h (by decide)), if_pos ⟨by omega, by decide⟩]
            rw [quoTo_on hs]
            have ih := quo_reads n (j + 1) (escB pre c) (a.push 10) (by omega) (by omega) (push_ext h ha (by rw [hc]; exact UInt8.toNat_inj.1 (by rw [h10]; rfl))) hq
            rw [hx] at ih
            simpa [ByteArray.size_push] using ih
          · by_cases h39 : c.toNat = 39
            · have hx : escB pre c = (pre.push 92).push 39 := by unfold escB; rw [if_neg h92, if_neg h10, if_pos h39]
              obtain ⟨b1, b2, b3⟩ := two 39 hx
              have hs : quoStep q pre.size = some (some (pre.size + 2, 39)) := by
                unfold quoStep
                rw [b1, b2, if_neg (by rintro (h | h); omega; exact absurd h (by decide)), if_neg (by decide), if_pos (by decide), if_neg (by rintro ⟨_, h⟩; exact absurd h (by decide)), if_neg (by rintro ⟨_, h⟩; exact absurd h (by decide)), if_pos ⟨by omega, by decide⟩]
              rw [quoTo_on hs]
              have ih := quo_reads n (j + 1) (escB pre c) (a.push 39) (by omega) (by omega) (push_ext h ha (by rw [hc]; exact UInt8.toNat_inj.1 (by rw [h39]; rfl))) hq
              rw [hx] at ih
              simpa [ByteArray.size_push] using ih
            · have hx : escB pre c = pre.push c := by unfold escB; rw [if_neg h92, if_neg h10, if_neg h39]
              rw [hx] at l1 l2
              simp only [ByteArray.size_push] at l1 l2
              have b1 : at8 q pre.size = c := by rw [l2 _ (by omega), push_last]
              have hs : quoStep q pre.size = some (some (pre.size + 1, c)) := by
                unfold quoStep
                rw [b1, if_neg (by omega), if_neg h39, if_neg h92]
              rw [quoTo_on hs]
              have ih := quo_reads n (j + 1) (escB pre c) (a.push c) (by omega) (by omega) (push_ext h ha hc.symm) hq
              rw [hx] at ih
              simpa [ByteArray.size_push] using ih
    · rw [quoteTo_end h] at hq
      have hz : q.size = pre.size + 1 := by rw [hq, ByteArray.size_push]
      have b1 : at8 q pre.size = 39 := by rw [hq]; exact push_last
      have hs : quoStep q pre.size = some none := by
        unfold quoStep
        rw [b1, if_neg (by rintro (h | h); omega; exact absurd h (by decide)), if_pos (by decide), if_neg (by omega)]
      rw [quoTo_end hs, hz, ha, show j = s.size by omega]
      congr 2
      exact ext_is (by omega) (Nat.le_refl _) fun k _ => by rw [Nat.zero_add]
/-- What is quoted is read as one token. -/
theorem lex_quoted {s : ByteArray} (hs : s.size ≤ 200) : lexTo (quoteTo s 0 ⟨#[39]⟩) 0 [] = ⟨[⟨2, s, 0, 0, 0, 0⟩], 0, 0⟩ := by
  obtain ⟨q, hq⟩ : ∃ q, q = quoteTo s 0 ⟨#[39]⟩ := ⟨_, rfl⟩
  rw [← hq]
  have z : (⟨#[39]⟩ : ByteArray).size = 1 := rfl
  obtain ⟨l1, l2⟩ := quoteTo_left s s.size 0 ⟨#[39]⟩ (by omega)
  rw [← hq, z] at l1
  rw [← hq] at l2
  have e0 : at8 q 0 = 39 := l2 0 (by decide)
  have hr := quo_reads (q := q) s.size 0 ⟨#[39]⟩ ⟨#[]⟩ (by omega) (Nat.zero_le _) (text_ext (by rw [size_sub (Nat.le_refl _) (Nat.zero_le _)]; rfl) fun k hk => absurd hk (Nat.not_lt_zero _)) hq
  rw [z] at hr
  have ho : oneTo q 0 0 [] = .tok q.size ⟨2, s, 0, 0, 0, ((0 : Nat) : Int)⟩ := by
    unfold oneTo
    rw [e0, if_neg (by decide), if_neg (by decide), if_neg (by decide), if_pos (by decide), hr]
    show nameTo 2 s 0 (q.size - 1 + 1) = _
    rw [show q.size - 1 + 1 = q.size by omega]
    exact if_neg (by omega)
  have hsk := skip_here (s := q) (i := 0) (by omega) (by rw [e0]; decide) (by rw [e0]; decide)
  rw [lex_tok (Nat.zero_le _) (by rw [hsk]) (by rw [hsk]; show 0 ≠ q.size; omega) (by rw [hsk]; exact ho), lex_stop]
  rfl
theorem lex_nil2 : lexTo ⟨#[91, 93]⟩ 0 [] = ⟨[⟨6, ⟨#[91]⟩, 0, 0, 0, 0⟩, ⟨6, ⟨#[93]⟩, 0, 0, 0, 1⟩], 0, 0⟩ := by
  have z : (⟨#[91, 93]⟩ : ByteArray).size = 2 := rfl
  have e0 : at8 (⟨#[91, 93]⟩ : ByteArray) 0 = 91 := rfl
  have e1 : at8 (⟨#[91, 93]⟩ : ByteArray) 1 = 93 := rfl
  have k0 := skip_here (s := ⟨#[91, 93]⟩) (i := 0) (by decide) (by rw [e0]; decide) (by rw [e0]; decide)
  have k1 := skip_here (s := ⟨#[91, 93]⟩) (i := 1) (by decide) (by rw [e1]; decide) (by rw [e1]; decide)
  have o0 := one_punct (s := ⟨#[91, 93]⟩) (i := 0) (m := 0) (ts := []) (by rw [e0]; decide) (fun _ => rfl)
  have o1 := one_punct (s := ⟨#[91, 93]⟩) (i := 1) (m := 1) (ts := [] ++ [(⟨6, ⟨#[at8 (⟨#[91, 93]⟩ : ByteArray) 0]⟩, 0, 0, 0, ((0 : Nat) : Int)⟩ : T)]) (by rw [e1]; decide) (fun h => by rw [e1] at h; cases h)
  rw [lex_tok (Nat.zero_le _) (by rw [k0]) (by rw [k0]; show 0 ≠ _; rw [z]; decide) (by rw [k0]; exact o0)]
  rw [lex_tok (by decide) (by rw [k1]) (by rw [k1]; show 1 ≠ _; rw [z]; decide) (by rw [k1]; exact o1)]
  exact lex_stop (s := ⟨#[91, 93]⟩)
end Go.Proofs.YtenpnejkgopghaaDoor.Tok
