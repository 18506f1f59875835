/- Proved: x.skip() of a scanner. Conditions: bytealg.MaxLen is laid below; the text's length. -/
import Derived.Test.YtenpnejkgopghaaDoorSc2
set_option linter.unusedVariables false
namespace Go.Proofs.YtenpnejkgopghaaDoor.Tok
open Go Go.RowKit Go.Proofs.YtenpnejkgopghaaDoor.AK
variable [Gnd]
theorem skip_does {B g i : Nat} {s : ByteArray} {ts : List T} {v : Value} (hgn : GndOk) (hi : i ≤ s.size) (hs : s.size ≤ 1000000) :
    Does Tryd.prog 22 [.pointer (some ⟨g, 0, none⟩)] B (Sc g s i ts (.st v)) fun u S1 => u = .bool (skipTo s i).2 ∧ S1 = Sc g s (skipTo s i).1 ts (.st v) := by
  refine Does.know fun hw => ?_
  have hv := sc_raw hw
  -- one round
  have round : ∀ (c : Code), (c = scC (tlC (codeOf Tryd.f22)) ∨ c = labC 0 (scC (tlC (codeOf Tryd.f22)))) → ∀ k, k ≤ s.size → Goes Tryd.prog 54 B c (Sc g s k ts (.st v)) (frO 54 [(0, .pointer (some ⟨g, 0, none⟩))]) fun e S1 o1 =>
      (∃ k', skipStep s k = .inl k' ∧ e = .goto 0 ∧ S1 = Sc g s k' ts (.st v) ∧ o1 = frO 54 [(0, .pointer (some ⟨g, 0, none⟩))]) ∨ (∃ r, skipStep s k = .inr r ∧ e = .ret ∧ S1 = Sc g s r.1 ts (.st v) ∧ o1 = frO 54 [(0, .pointer (some ⟨g, 0, none⟩)), (2, .bool r.2)]) := by
    intro c hc k hk
    have h1 := runTo_ge isWhite s k
    have h2 := runTo_le (p := isWhite) hk
    by_cases a0 : runTo isWhite s k < s.size
    · by_cases a1 : (at8 s (runTo isWhite s k)).toNat = 37
      · rcases hc with rfl | rfl
        · exact ((((skipb hgn hk hs hv).2 (by omega)).1 (by omega))).mono fun e S1 o1 ⟨q1, q2, q3⟩ => .inl ⟨_, skip_pct a0 a1, q1, q2, q3⟩
        · exact ((((skipc hgn hk hs hv).2 (by omega)).1 (by omega))).mono fun e S1 o1 ⟨q1, q2, q3⟩ => .inl ⟨_, skip_pct a0 a1, q1, q2, q3⟩
      · by_cases a2 : runTo isWhite s k + 1 < s.size
        · by_cases a3 : (at8 s (runTo isWhite s k)).toNat = 47
          · by_cases a4 : (at8 s (runTo isWhite s k + 1)).toNat = 42
            · by_cases a5 : findClose s (runTo isWhite s k + 2) < s.size
              · rcases hc with rfl | rfl
                · exact ((((((((skipb hgn hk hs hv).2 (by omega)).2 (by omega)).2 (by omega)).1 (by omega)).1 (by omega)).1 a5)).mono fun e S1 o1 ⟨q1, q2, q3⟩ => .inl ⟨_, skip_go a2 a3 a4 a5, q1, q2, q3⟩
                · exact ((((((((skipc hgn hk hs hv).2 (by omega)).2 (by omega)).2 (by omega)).1 (by omega)).1 (by omega)).1 a5)).mono fun e S1 o1 ⟨q1, q2, q3⟩ => .inl ⟨_, skip_go a2 a3 a4 a5, q1, q2, q3⟩
              · rcases hc with rfl | rfl
                · exact ((((((((skipb hgn hk hs hv).2 (by omega)).2 (by omega)).2 (by omega)).1 (by omega)).1 (by omega)).2 a5)).mono fun e S1 o1 ⟨q1, q2, q3⟩ => .inr ⟨_, skip_bad a2 a3 a4 a5, q1, q2, q3⟩
                · exact ((((((((skipc hgn hk hs hv).2 (by omega)).2 (by omega)).2 (by omega)).1 (by omega)).1 (by omega)).2 a5)).mono fun e S1 o1 ⟨q1, q2, q3⟩ => .inr ⟨_, skip_bad a2 a3 a4 a5, q1, q2, q3⟩
            · rcases hc with rfl | rfl
              · exact (((((((skipb hgn hk hs hv).2 (by omega)).2 (by omega)).2 (by omega)).1 (by omega)).2 (by omega))).mono fun e S1 o1 ⟨q1, q2, q3⟩ => .inr ⟨_, skip_end (by omega) (by omega), q1, q2, q3⟩
              · exact (((((((skipc hgn hk hs hv).2 (by omega)).2 (by omega)).2 (by omega)).1 (by omega)).2 (by omega))).mono fun e S1 o1 ⟨q1, q2, q3⟩ => .inr ⟨_, skip_end (by omega) (by omega), q1, q2, q3⟩
          · rcases hc with rfl | rfl
            · exact ((((((skipb hgn hk hs hv).2 (by omega)).2 (by omega)).2 (by omega)).2 (by omega))).mono fun e S1 o1 ⟨q1, q2, q3⟩ => .inr ⟨_, skip_end (by omega) (by omega), q1, q2, q3⟩
            · exact ((((((skipc hgn hk hs hv).2 (by omega)).2 (by omega)).2 (by omega)).2 (by omega))).mono fun e S1 o1 ⟨q1, q2, q3⟩ => .inr ⟨_, skip_end (by omega) (by omega), q1, q2, q3⟩
        · rcases hc with rfl | rfl
          · exact (((((skipb hgn hk hs hv).2 (by omega)).2 (by omega)).1 (by omega))).mono fun e S1 o1 ⟨q1, q2, q3⟩ => .inr ⟨_, skip_end (by omega) (by omega), q1, q2, q3⟩
          · exact (((((skipc hgn hk hs hv).2 (by omega)).2 (by omega)).1 (by omega))).mono fun e S1 o1 ⟨q1, q2, q3⟩ => .inr ⟨_, skip_end (by omega) (by omega), q1, q2, q3⟩
    · rcases hc with rfl | rfl
      · exact ((((skipb hgn hk hs hv).1 (by omega)).1 (by omega))).mono fun e S1 o1 ⟨q1, q2, q3⟩ => .inr ⟨_, skip_end (by omega) (by omega), q1, q2, q3⟩
      · exact ((((skipc hgn hk hs hv).1 (by omega)).1 (by omega))).mono fun e S1 o1 ⟨q1, q2, q3⟩ => .inr ⟨_, skip_end (by omega) (by omega), q1, q2, q3⟩
  have post : ∀ k, k ≤ s.size → skipTo s k = skipTo s i → ∀ (n : Nat), s.size - k ≤ n → ∀ (e : Exit) (S1 : MSt) (o1 : List (Option Value)), ((∃ k', skipStep s k = .inl k' ∧ e = .goto 0 ∧ S1 = Sc g s k' ts (.st v) ∧ o1 = frO 54 [(0, .pointer (some ⟨g, 0, none⟩))]) ∨ (∃ r, skipStep s k = .inr r ∧ e = .ret ∧ S1 = Sc g s r.1 ts (.st v) ∧ o1 = frO 54 [(0, .pointer (some ⟨g, 0, none⟩)), (2, .bool r.2)])) →
      (match e with | Exit.goto j => j = 0 ∧ ∃ n', n' < n ∧ ∃ k', n' = s.size - k' ∧ k' ≤ s.size ∧ skipTo s k' = skipTo s i ∧ S1 = Sc g s k' ts (.st v) ∧ o1 = frO 54 [(0, .pointer (some ⟨g, 0, none⟩))] | e => (e = .normal ∨ e = .ret) ∧ ∃ u, resO Tryd.f22.results.toList o1 = some u ∧ u = .bool (skipTo s i).2 ∧ S1 = Sc g s (skipTo s i).1 ts (.st v)) := by
    rintro k hk hki n hn e S1 o1 (⟨k', h1, rfl, rfl, rfl⟩ | ⟨r, h1, rfl, rfl, rfl⟩)
    · have h2 := skipStep_on hk h1
      exact ⟨rfl, s.size - k', by omega, k', rfl, h2.2, by rw [← hki, skipTo_on hk h1], rfl, rfl⟩
    · have e1 : skipTo s i = r := by rw [← hki, skipTo_end h1]
      exact ⟨.inr rfl, .bool r.2, rfl, by rw [e1], by rw [e1]⟩
  refine Goes.callsE (fn := Tryd.f22) Tryd.func22 rfl (Nat.le_of_ble_eq_true rfl) ?_
  refine Goes.seqE (by kernel_rfl) ((skipa hgn hi hs hv).mono ?_)
  rintro e S1 o1 ⟨rfl, rfl, rfl⟩
  refine Goes.scopeE 0 (by kernel_rfl) (by kernel_rfl) (fun n S o => ∃ k, n = s.size - k ∧ k ≤ s.size ∧ skipTo s k = skipTo s i ∧ S = Sc g s k ts (.st v) ∧ o = frO 54 [(0, .pointer (some ⟨g, 0, none⟩))]) (s.size - i) ?_ ?_
  · exact (round _ (.inl rfl) i hi).mono fun e S1 o1 h => by
      have := post i hi rfl (s.size - i) (Nat.le_refl _) e S1 o1 h
      cases e <;> exact this
  · rintro n S o ⟨k, rfl, hk, hki, rfl, rfl⟩
    exact (round _ (.inr rfl) k hk).mono fun e S1 o1 h => by
      have := post k hk hki (s.size - k) (Nat.le_refl _) e S1 o1 h
      cases e <;> exact this
end Go.Proofs.YtenpnejkgopghaaDoor.Tok
