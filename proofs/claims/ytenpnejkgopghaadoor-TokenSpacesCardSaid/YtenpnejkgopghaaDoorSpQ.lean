/- White space and remarks between two texts make no difference. No program in sight. -/
import Derived.Test.YtenpnejkgopghaaDoorSpP
set_option linter.unusedVariables false
set_option linter.unusedSectionVars false
set_option linter.unusedSimpArgs false
set_option maxRecDepth 100000
namespace Go.Proofs.YtenpnejkgopghaaDoor.Tok
open Go Go.RowKit
theorem skip_same {s : ByteArray} {i j : Nat} (hi : i ≤ s.size) (hj : j ≤ s.size) (h : skipStep s i = skipStep s j) : skipTo s i = skipTo s j := by
  cases e : skipStep s j with
  | inl k => rw [skipTo_on hi (h.trans e), skipTo_on hj e]
  | inr r => rw [skipTo_end (h.trans e), skipTo_end e]
/-- White space is passed over. -/
theorem skip_whites {s : ByteArray} {i j : Nat} (hij : i ≤ j) (hj : j ≤ s.size) (hw : ∀ k, i ≤ k → k < j → isWhite (at8 s k) = true) : skipTo s i = skipTo s j := by
  have hr : runTo isWhite s i = runTo isWhite s j := by
    have h1 := runTo_ge isWhite s j
    have h2 := runTo_le (p := isWhite) hj
    refine runTo_eq (by omega) h2 ?_ fun k k1 k2 => ?_
    · have := runTo_end isWhite s j
      cases e : isWhite (at8 s (runTo isWhite s j)) with
      | false => exact .inr rfl
      | true =>
        left
        rcases Nat.lt_or_ge (runTo isWhite s j) s.size with q | q
        · exact absurd ⟨q, e⟩ this
        · omega
    · rcases Nat.lt_or_ge k j with q | q
      · exact hw k k1 q
      · exact (runTo_in q k2).2
  refine skip_same (by omega) hj ?_
  unfold skipStep
  rw [hr]
theorem findClose_eq {s : ByteArray} {f : Nat} (hf : f + 1 < s.size) (h1 : (at8 s f).toNat = 42) (h2 : (at8 s (f + 1)).toNat = 47) : ∀ (n k : Nat), f - k ≤ n → k ≤ f → (∀ j, k ≤ j → j < f → ¬ ((at8 s j).toNat = 42 ∧ (at8 s (j + 1)).toNat = 47)) → findClose s k = f
  | n, k, hn, hk, hno => by
    have e42 : ∀ c : UInt8, c.toNat = 42 ↔ c = 42 := fun c => ⟨fun h => UInt8.toNat_inj.1 (by rw [h]; rfl), fun h => by rw [h]; rfl⟩
    have e47 : ∀ c : UInt8, c.toNat = 47 ↔ c = 47 := fun c => ⟨fun h => UInt8.toNat_inj.1 (by rw [h]; rfl), fun h => by rw [h]; rfl⟩
    unfold findClose
    rw [if_pos (by omega)]
    by_cases e : k = f
    · subst e
      rw [if_pos ⟨(e42 _).1 h1, (e47 _).1 h2⟩]
    · rw [if_neg (fun q => hno k (Nat.le_refl _) (by omega) ⟨(e42 _).2 q.1, (e47 _).2 q.2⟩)]
      cases n with
      | zero => omega
      | succ n => exact findClose_eq hf h1 h2 n (k + 1) (by omega) (by omega) fun j j1 j2 => hno j (by omega) j2
/-- Before where it closes it does not close. -/
theorem findClose_no {s : ByteArray} : ∀ (n k j : Nat), s.size - k ≤ n → k ≤ j → j < findClose s k → j + 1 < s.size → ¬ ((at8 s j).toNat = 42 ∧ (at8 s (j + 1)).toNat = 47)
  | n, k, j, hn, hk, hj, hs, hc => by
    rw [findClose, if_pos (by omega)] at hj
    by_cases c : at8 s k = 42 ∧ at8 s (k + 1) = 47
    · rw [if_pos c] at hj; omega
    · rw [if_neg c] at hj
      by_cases e : k = j
      · subst e
        exact c ⟨UInt8.toNat_inj.1 (by rw [hc.1]; rfl), UInt8.toNat_inj.1 (by rw [hc.2]; rfl)⟩
      · cases n with
        | zero => omega
        | succ n => exact findClose_no n (k + 1) j (by omega) (by omega) hj hs hc
/-- A remark that closes within the stretch. -/
theorem Win.close {x y : ByteArray} {d hi k : Nat} (W : Win x y d hi) (hk : k ≤ hi) (h : findClose x k < x.size) : findClose x k + 1 < hi ∧ findClose y (k + d) = findClose x k + d := by
  have hx := W.hx
  have hy := W.hy
  obtain ⟨c1, c2, c3⟩ := findClose_is x k h
  have hge := (findClose_ge x k (by omega)).1
  have hlt : findClose x k + 1 < hi := by
    rcases W.stop with w | w
    · omega
    · rcases Nat.lt_or_ge (findClose x k + 1) hi with q | q
      · exact q
      · have e : findClose x k + 1 = hi := by omega
        rw [e] at c3
        have := white_cases w.2.2.1
        rw [c3] at this
        exact absurd this (by decide)
  refine ⟨hlt, ?_⟩
  have e1 := W.same (findClose x k) (by omega)
  have e2 := W.same (findClose x k + 1) hlt
  refine findClose_eq (by omega) (by rw [e1, c2]; rfl) (by rw [show findClose x k + d + 1 = findClose x k + 1 + d by omega, e2, c3]; rfl) (findClose x k - k) (k + d) (by omega) (by omega) fun j j1 j2 hc => ?_
  have f1 := W.same (j - d) (by omega)
  have f2 := W.same (j - d + 1) (by omega)
  rw [show j - d + d = j by omega] at f1
  rw [show j - d + 1 + d = j + 1 by omega] at f2
  rw [f1, f2] at hc
  exact findClose_no (x.size - k) k (j - d) (Nat.le_refl _) (by omega) (by omega) (by omega) hc
/-- A round over white space and remarks, in a stretch without %: it ends here, in both; it goes on, in both; a remark does not end; there is white space to the stretch's end. -/
theorem Win.step {x y : ByteArray} {d hi i : Nat} (W : Win x y d hi) (hp : ∀ k, k < hi → (at8 x k).toNat ≠ 37) (hi' : i ≤ hi) :
    (∃ k, k < hi ∧ i ≤ k ∧ skipStep x i = .inr (k, true) ∧ skipStep y (i + d) = .inr (k + d, true)) ∨ (∃ k, k ≤ hi ∧ skipStep x i = .inl k ∧ skipStep y (i + d) = .inl (k + d)) ∨ (∃ k, skipStep x i = .inr (k, false)) ∨ (∀ k, i ≤ k → k < hi → isWhite (at8 x k) = true) := by
  have hx := W.hx
  have hy := W.hy
  have r1 := runTo_ge isWhite x i
  rcases Nat.lt_or_ge (runTo isWhite x i) hi with q | q
  · have hr : runTo isWhite y (i + d) = runTo isWhite x i + d := by
      refine runTo_eq (by omega) (by omega) (.inr ?_) fun k k1 k2 => ?_
      · rw [W.same _ q]
        have := runTo_end isWhite x i
        cases e : isWhite (at8 x (runTo isWhite x i)) with
        | false => rfl
        | true => exact absurd ⟨by omega, e⟩ this
      · have := (runTo_in (p := isWhite) (s := x) (j := i) (k := k - d) (by omega) (by omega)).2
        rw [← W.same (k - d) (by omega), show k - d + d = k by omega] at this
        exact this
    have e0 := W.same _ q
    have hn := W.next (v := 42) q fun c hc => by have := white_cases hc; omega
    by_cases c1 : runTo isWhite x i + 1 < x.size ∧ (at8 x (runTo isWhite x i)).toNat = 47 ∧ (at8 x (runTo isWhite x i + 1)).toNat = 42
    · have c2 : runTo isWhite y (i + d) + 1 < y.size ∧ (at8 y (runTo isWhite y (i + d))).toNat = 47 ∧ (at8 y (runTo isWhite y (i + d) + 1)).toNat = 42 := by
        rw [hr, e0]
        have := hn.1 ⟨c1.1, c1.2.2⟩
        exact ⟨this.1, c1.2.1, this.2⟩
      have hwi := W.within (v := 42) q (fun c hc => by have := white_cases hc; omega) ⟨c1.1, c1.2.2⟩
      by_cases c3 : findClose x (runTo isWhite x i + 2) < x.size
      · obtain ⟨f1, f2⟩ := W.close (by omega) c3
        refine .inr (.inl ⟨findClose x (runTo isWhite x i + 2) + 2, by omega, skip_go c1.1 c1.2.1 c1.2.2 c3, ?_⟩)
        have f3 : findClose y (runTo isWhite y (i + d) + 2) = findClose x (runTo isWhite x i + 2) + d := by
          rw [hr, show runTo isWhite x i + d + 2 = runTo isWhite x i + 2 + d by omega]; exact f2
        rw [skip_go c2.1 c2.2.1 c2.2.2 (by omega), f3]
        congr 1; omega
      · exact .inr (.inr (.inl ⟨_, skip_bad c1.1 c1.2.1 c1.2.2 c3⟩))
    · refine .inl ⟨runTo isWhite x i, q, r1, skip_end (fun h => hp _ q h.2) c1, ?_⟩
      rw [skip_end, hr]
      · rw [hr, e0]; exact fun h => hp _ q h.2
      · rw [hr, e0]
        rintro ⟨h1, h2, h3⟩
        have := hn.2 ⟨h1, h3⟩
        exact c1 ⟨this.1, h2, this.2⟩
  · exact .inr (.inr (.inr fun k k1 k2 => (runTo_in k1 (by omega)).2))
/-- Where white space and remarks end: here, in both; or both go to the stretch's end. -/
theorem Win.skip {x y : ByteArray} {d hi : Nat} (W : Win x y d hi) (hp : ∀ k, k < hi → (at8 x k).toNat ≠ 37) : ∀ (n i : Nat), hi - i ≤ n → i ≤ hi → (skipTo x i).2 = true →
    ((skipTo x i).1 < hi ∧ i ≤ (skipTo x i).1 ∧ skipTo y (i + d) = ((skipTo x i).1 + d, true)) ∨ (hi ≤ (skipTo x i).1 ∧ skipTo y (i + d) = skipTo y (hi + d))
  | n, i, hn, hi', h => by
    have hx := W.hx
    have hy := W.hy
    rcases W.step hp hi' with ⟨k, k1, k2, k3, k4⟩ | ⟨k, k1, k2, k3⟩ | ⟨k, k1⟩ | hw
    · rw [skipTo_end k3, skipTo_end k4]
      exact .inl ⟨k1, k2, rfl⟩
    · have hlt := skipStep_on (by omega) k2
      rw [skipTo_on (by omega) k2] at h ⊢
      rw [skipTo_on (by omega) k3]
      cases n with
      | zero => omega
      | succ n =>
        rcases W.skip hp n k (by omega) k1 h with ⟨a1, a2, a3⟩ | ⟨a1, a2⟩
        · exact .inl ⟨a1, by omega, a3⟩
        · exact .inr ⟨a1, a2⟩
    · rw [skipTo_end k1] at h; cases h
    · right
      refine ⟨?_, skip_whites (by omega) hy fun k k1 k2 => ?_⟩
      · have e : skipTo x i = skipTo x hi := skip_whites hi' hx hw
        rw [e]
        exact (skipTo_le hx).1
      · have := W.same (k - d) (by omega)
        rw [show k - d + d = k by omega] at this
        rw [this]
        exact hw _ (by omega) (by omega)
/-- The stretch to both texts' ends: white space and remarks. -/
theorem Win.skipEnd {x y : ByteArray} {d : Nat} (W : Win x y d x.size) (hd : x.size + d = y.size) : ∀ (n i : Nat), x.size - i ≤ n → i ≤ x.size → skipTo y (i + d) = ((skipTo x i).1 + d, (skipTo x i).2)
  | n, i, hn, hi' => by
    obtain ⟨r1, r2⟩ := W.run (p := isWhite) (.inr ⟨rfl, hd⟩) hi'
    have hge := runTo_ge isWhite x i
    have byte : ∀ k, k < x.size → at8 y (k + d) = at8 x k := W.same
    by_cases c0 : runTo isWhite x i < x.size ∧ (at8 x (runTo isWhite x i)).toNat = 37
    · have n1 := W.run (p := notNl) (.inr ⟨rfl, hd⟩) r2
      have s1 := skip_pct c0.1 c0.2
      have s2 : skipStep y (i + d) = .inl (runTo notNl x (runTo isWhite x i) + d) := by
        rw [skip_pct (by rw [r1]; omega) (by rw [r1, byte _ c0.1]; exact c0.2), r1, n1.1]
      have hlt := skipStep_on hi' s1
      rw [skipTo_on hi' s1, skipTo_on (by omega) s2]
      cases n with
      | zero => omega
      | succ n => exact W.skipEnd hd n _ (by omega) n1.2
    · by_cases c1 : runTo isWhite x i + 1 < x.size ∧ (at8 x (runTo isWhite x i)).toNat = 47 ∧ (at8 x (runTo isWhite x i + 1)).toNat = 42
      · have b0 := byte _ (show runTo isWhite x i < x.size by omega)
        have b1 := byte _ c1.1
        rw [show runTo isWhite x i + 1 + d = runTo isWhite x i + d + 1 by omega] at b1
        have d1 : runTo isWhite y (i + d) + 1 < y.size := by rw [r1]; omega
        have d2 : (at8 y (runTo isWhite y (i + d))).toNat = 47 := by rw [r1, b0]; exact c1.2.1
        have d3 : (at8 y (runTo isWhite y (i + d) + 1)).toNat = 42 := by rw [r1, b1]; exact c1.2.2
        by_cases c3 : findClose x (runTo isWhite x i + 2) < x.size
        · obtain ⟨f1, f2⟩ := W.close (by omega) c3
          have f3 : findClose y (runTo isWhite y (i + d) + 2) = findClose x (runTo isWhite x i + 2) + d := by
            rw [r1, show runTo isWhite x i + d + 2 = runTo isWhite x i + 2 + d by omega]; exact f2
          have s1 := skip_go c1.1 c1.2.1 c1.2.2 c3
          have s2 : skipStep y (i + d) = .inl (findClose x (runTo isWhite x i + 2) + 2 + d) := by
            rw [skip_go d1 d2 d3 (by omega), f3]; congr 1; omega
          have hlt := skipStep_on hi' s1
          rw [skipTo_on hi' s1, skipTo_on (by omega) s2]
          cases n with
          | zero => omega
          | succ n => exact W.skipEnd hd n _ (by omega) (by omega)
        · have c4 : ¬ findClose y (runTo isWhite y (i + d) + 2) < y.size := by
            intro h
            obtain ⟨q1, q2, q3⟩ := findClose_is y _ h
            have q0 := (findClose_ge y (runTo isWhite y (i + d) + 2) (by omega)).1
            have u1 := byte (findClose y (runTo isWhite y (i + d) + 2) - d) (by omega)
            have u2 := byte (findClose y (runTo isWhite y (i + d) + 2) - d + 1) (by omega)
            rw [show findClose y (runTo isWhite y (i + d) + 2) - d + d = findClose y (runTo isWhite y (i + d) + 2) by omega, q2] at u1
            rw [show findClose y (runTo isWhite y (i + d) + 2) - d + 1 + d = findClose y (runTo isWhite y (i + d) + 2) + 1 by omega, q3] at u2
            refine findClose_no (s := x) (x.size - (runTo isWhite x i + 2)) (runTo isWhite x i + 2) (findClose y (runTo isWhite y (i + d) + 2) - d) (Nat.le_refl _) (by omega) ?_ (by omega) ⟨by rw [← u1]; rfl, by rw [← u2]; rfl⟩
            have := (findClose_ge x (runTo isWhite x i + 2) (by omega)).2
            omega
          rw [skipTo_end (skip_bad c1.1 c1.2.1 c1.2.2 c3), skipTo_end (skip_bad d1 d2 d3 c4), r1]
      · rw [skipTo_end (skip_end c0 c1), skipTo_end (skip_end _ _), r1]
        · rw [r1]
          rintro ⟨h1, h2⟩
          have h1 : runTo isWhite x i < x.size := by omega
          rw [byte _ h1] at h2
          exact c0 ⟨h1, h2⟩
        · rw [r1]
          rintro ⟨h1, h2, h3⟩
          have b1 := byte (runTo isWhite x i + 1) (by omega)
          rw [show runTo isWhite x i + 1 + d = runTo isWhite x i + d + 1 by omega] at b1
          rw [byte _ (by omega)] at h2
          rw [b1] at h3
          exact c1 ⟨by omega, h2, h3⟩
end Go.Proofs.YtenpnejkgopghaaDoor.Tok
