/- Texts that agree on a stretch have the same tokens there. No program in sight. -/
import Derived.Test.YtenpnejkgopghaaDoorQuoM
import Derived.Test.YtenpnejkgopghaaDoorPlaceP
set_option linter.unusedVariables false
set_option linter.unusedSectionVars false
set_option linter.unusedSimpArgs false
set_option maxRecDepth 100000
namespace Go.Proofs.YtenpnejkgopghaaDoor.Tok
open Go Go.RowKit Go.Proofs.YtenpnejkgopghaaDoor.Form Go.Proofs.YtenpnejkgopghaaDoor.ParseC
/-- The first hi bytes of x stand in y, d further on; behind them both texts end, or white space stands (in x: one byte). -/
structure Win (x y : ByteArray) (d hi : Nat) : Prop where
  same : ∀ k, k < hi → at8 y (k + d) = at8 x k
  stop : (hi = x.size ∧ hi + d = y.size) ∨ (hi + 1 = x.size ∧ hi + d < y.size ∧ isWhite (at8 x hi) = true ∧ isWhite (at8 y (hi + d)) = true)
theorem Win.hx {x y : ByteArray} {d hi : Nat} (W : Win x y d hi) : hi ≤ x.size := by rcases W.stop with h | h <;> omega
theorem Win.hy {x y : ByteArray} {d hi : Nat} (W : Win x y d hi) : hi + d ≤ y.size := by rcases W.stop with h | h <;> omega
theorem Win.run {x y : ByteArray} {d hi i : Nat} (W : Win x y d hi) {p : UInt8 → Bool} (hp : (∀ c, isWhite c = true → p c = false) ∨ hi = x.size ∧ hi + d = y.size) (hi' : i ≤ hi) : runTo p y (i + d) = runTo p x i + d ∧ runTo p x i ≤ hi := by
  have h1 := runTo_ge p x i
  have h2 := runTo_le (p := p) (s := x) (j := i) (by have := W.hx; omega)
  have hj : runTo p x i ≤ hi := by
    rcases W.stop with h | h
    · omega
    · rcases hp with hp | hp
      · rcases Nat.lt_or_ge hi (runTo p x i) with q | q
        · have := (runTo_in (p := p) hi' q).2
          rw [hp _ h.2.2.1] at this; cases this
        · exact q
      · omega
  refine ⟨runTo_eq (by omega) (by have := W.hy; omega) ?_ fun k k1 k2 => ?_, hj⟩
  · rcases Nat.lt_or_ge (runTo p x i) hi with q | q
    · right
      rw [W.same _ q]
      have := runTo_end p x i
      cases e : p (at8 x (runTo p x i)) with
      | false => rfl
      | true => exact absurd ⟨by have := W.hx; omega, e⟩ this
    · have e : runTo p x i = hi := by omega
      rw [e]
      rcases W.stop with h | h
      · exact .inl h.2
      · rcases hp with hp | hp
        · exact .inr (hp _ h.2.2.2)
        · omega
  · have := (runTo_in (p := p) (s := x) (j := i) (k := k - d) (by omega) (by omega)).2
    rw [← W.same (k - d) (by omega), show k - d + d = k by omega] at this
    exact this
theorem Win.ext {x y : ByteArray} {d hi i j : Nat} (W : Win x y d hi) (hij : i ≤ j) (hj : j ≤ hi) : y.extract (i + d) (j + d) = x.extract i j := by
  have hz := size_sub (s := x) hij (by have := W.hx; omega)
  refine ext_is (by omega) (by have := W.hy; omega) fun k hk => ?_
  rw [at8_ext (by omega) (by have := W.hx; omega), ← W.same (i + k) (by omega)]
  congr 1; omega
/-- A byte that is no white space stands next in both, or in none. -/
theorem Win.next {x y : ByteArray} {d hi j v : Nat} (W : Win x y d hi) (hj : j < hi) (hv : ∀ c : UInt8, isWhite c = true → c.toNat ≠ v) : (j + 1 < x.size ∧ (at8 x (j + 1)).toNat = v) ↔ (j + d + 1 < y.size ∧ (at8 y (j + d + 1)).toNat = v) := by
  have hx := W.hx
  have hy := W.hy
  rcases Nat.lt_or_ge (j + 1) hi with q | q
  · have := W.same (j + 1) q
    rw [show j + 1 + d = j + d + 1 by omega] at this
    rw [this]
    constructor
    · rintro ⟨_, h⟩; exact ⟨by omega, h⟩
    · rintro ⟨_, h⟩; exact ⟨by omega, h⟩
  · have e : j + 1 = hi := by omega
    rcases W.stop with h | h
    · constructor <;> (rintro ⟨h1, _⟩; omega)
    · have e2 : j + d + 1 = hi + d := by omega
      rw [e, e2]
      constructor
      · rintro ⟨_, h1⟩; exact absurd h1 (hv _ h.2.2.1)
      · rintro ⟨_, h1⟩; exact absurd h1 (hv _ h.2.2.2)
/-- And then it stands within the stretch. -/
theorem Win.within {x y : ByteArray} {d hi j v : Nat} (W : Win x y d hi) (hj : j < hi) (hv : ∀ c : UInt8, isWhite c = true → c.toNat ≠ v) (h : j + 1 < x.size ∧ (at8 x (j + 1)).toNat = v) : j + 1 < hi := by
  rcases Nat.lt_or_ge (j + 1) hi with q | q
  · exact q
  · have e : j + 1 = hi := by omega
    rcases W.stop with w | w
    · omega
    · rw [e] at h
      exact absurd h.2 (hv _ w.2.2.1)
theorem white_cases {c : UInt8} (h : isWhite c = true) : c.toNat = 32 ∨ c.toNat = 9 ∨ c.toNat = 10 ∨ c.toNat = 13 := by
  unfold isWhite at h
  simp only [Bool.or_eq_true, beq_iff_eq] at h
  rcases h with ((h | h) | h) | h <;> (subst h; decide)
theorem Win.quo {x y : ByteArray} {d hi : Nat} (W : Win x y d hi) : ∀ (n j : Nat) (b : ByteArray) {k : Nat} {c : ByteArray}, hi - j ≤ n → j ≤ hi → quoTo x j b = some (k, c) → k < hi ∧ quoTo y (j + d) b = some (k + d, c)
  | n, j, b, k, c, hn, hj, h => by
    have hx := W.hx
    have hy := W.hy
    rcases Nat.lt_or_ge j hi with q | q
    · have n39 := W.next (v := 39) q fun c hc => by have := white_cases hc; omega
      have n92 := W.next (v := 92) q fun c hc => by have := white_cases hc; omega
      have n110 := W.next (v := 110) q fun c hc => by have := white_cases hc; omega
      have m39 := W.within (v := 39) q fun c hc => by have := white_cases hc; omega
      have m92 := W.within (v := 92) q fun c hc => by have := white_cases hc; omega
      have m110 := W.within (v := 110) q fun c hc => by have := white_cases hc; omega
      have e0 := W.same j q
      have stepY : quoStep y (j + d) = if y.size ≤ j + d ∨ (at8 x j).toNat = 10 then none
          else if (at8 x j).toNat = 39 then (if j + 1 < x.size ∧ (at8 x (j + 1)).toNat = 39 then some (some (j + d + 2, 39)) else some none)
          else if (at8 x j).toNat = 92 then
            (if j + 1 < x.size ∧ (at8 x (j + 1)).toNat = 92 then some (some (j + d + 2, 92))
             else if j + 1 < x.size ∧ (at8 x (j + 1)).toNat = 110 then some (some (j + d + 2, 10))
             else if j + 1 < x.size ∧ (at8 x (j + 1)).toNat = 39 then some (some (j + d + 2, 39)) else none)
          else some (some (j + d + 1, at8 x j)) := by
        unfold quoStep
        rw [e0]
        simp only [← n39, ← n92, ← n110]
      cases n with
      | zero => omega
      | succ n =>
        have go : ∀ (k' : Nat) (c' : UInt8), quoStep x j = some (some (k', c')) → k' ≤ hi → j < k' → quoStep y (j + d) = some (some (k' + d, c')) → k < hi ∧ quoTo y (j + d) b = some (k + d, c) := fun k' c' s1 hk hlt s2 => by
          rw [quoTo_on s1] at h
          have ih := W.quo n k' (b.push c') (by omega) hk h
          rw [quoTo_on s2]
          exact ih
        have hq := h
        by_cases c10 : (at8 x j).toNat = 10
        · rw [quoTo_bad (by unfold quoStep; rw [if_pos (.inr c10)])] at h; cases h
        · have ny : ¬ (y.size ≤ j + d ∨ (at8 x j).toNat = 10) := by omega
          have nx : ¬ (x.size ≤ j ∨ (at8 x j).toNat = 10) := by omega
          rw [if_neg ny] at stepY
          by_cases c39 : (at8 x j).toNat = 39
          · rw [if_pos c39] at stepY
            by_cases b39 : j + 1 < x.size ∧ (at8 x (j + 1)).toNat = 39
            · rw [if_pos b39] at stepY
              have := m39 b39
              exact go (j + 2) 39 (by unfold quoStep; rw [if_neg nx, if_pos c39, if_pos b39]) (by omega) (by omega) (by rw [stepY]; congr 3; omega)
            · rw [if_neg b39] at stepY
              have s1 : quoStep x j = some none := by unfold quoStep; rw [if_neg nx, if_pos c39, if_neg b39]
              rw [quoTo_end s1] at h
              injection h with h
              injection h with h1 h2
              subst h1 h2
              exact ⟨q, quoTo_end stepY⟩
          · rw [if_neg c39] at stepY
            by_cases c92 : (at8 x j).toNat = 92
            · rw [if_pos c92] at stepY
              by_cases b92 : j + 1 < x.size ∧ (at8 x (j + 1)).toNat = 92
              · rw [if_pos b92] at stepY
                have := m92 b92
                exact go (j + 2) 92 (by unfold quoStep; rw [if_neg nx, if_neg c39, if_pos c92, if_pos b92]) (by omega) (by omega) (by rw [stepY]; congr 3; omega)
              · rw [if_neg b92] at stepY
                by_cases b110 : j + 1 < x.size ∧ (at8 x (j + 1)).toNat = 110
                · rw [if_pos b110] at stepY
                  have := m110 b110
                  exact go (j + 2) 10 (by unfold quoStep; rw [if_neg nx, if_neg c39, if_pos c92, if_neg b92, if_pos b110]) (by omega) (by omega) (by rw [stepY]; congr 3; omega)
                · rw [if_neg b110] at stepY
                  by_cases b39 : j + 1 < x.size ∧ (at8 x (j + 1)).toNat = 39
                  · rw [if_pos b39] at stepY
                    have := m39 b39
                    exact go (j + 2) 39 (by unfold quoStep; rw [if_neg nx, if_neg c39, if_pos c92, if_neg b92, if_neg b110, if_pos b39]) (by omega) (by omega) (by rw [stepY]; congr 3; omega)
                  · rw [quoTo_bad (by unfold quoStep; rw [if_neg nx, if_neg c39, if_pos c92, if_neg b92, if_neg b110, if_neg b39])] at h; cases h
            · rw [if_neg c92] at stepY
              exact go (j + 1) (at8 x j) (by unfold quoStep; rw [if_neg nx, if_neg c39, if_neg c92]) (by omega) (by omega) (by rw [stepY]; congr 3; omega)
    · have e : j = hi := by omega
      exfalso
      rw [e] at h
      rcases W.stop with w | w
      · rw [quoTo_bad (by unfold quoStep; rw [if_pos (.inl (by omega))])] at h; cases h
      · have hw := white_cases w.2.2.1
        by_cases c10 : (at8 x hi).toNat = 10
        · rw [quoTo_bad (by unfold quoStep; rw [if_pos (.inr c10)])] at h; cases h
        · have s1 : quoStep x hi = some (some (hi + 1, at8 x hi)) := by
            unfold quoStep; rw [if_neg (by omega), if_neg (by omega), if_neg (by omega)]
          rw [quoTo_on s1, quoTo_bad (by unfold quoStep; rw [if_pos (.inl (by omega))])] at h
          cases h
/-- A token, further on. -/
def sh (d : Nat) (t : T) : T := ⟨t.kind, t.text, t.int, t.re, t.im, t.at_ + ((d : Nat) : Int)⟩
theorem shT (d i : Nat) (k : Int) (b : ByteArray) (n a c : Int) : (⟨k, b, n, a, c, (((i + d : Nat) : Nat) : Int)⟩ : T) = sh d ⟨k, b, n, a, c, ((i : Nat) : Int)⟩ := by
  unfold sh; congr 1
theorem name_sh {d i j : Nat} {k : Int} {b : ByteArray} {j' : Nat} {t : T} (h : nameTo k b i j = .tok j' t) : nameTo k b (i + d) (j + d) = .tok (j' + d) (sh d t) := by
  unfold nameTo at h ⊢
  split at h
  · cases h
  · rename_i hb
    injection h with h1 h2
    subst h1 h2
    rw [if_neg hb, shT]
theorem Win.dig {x y : ByteArray} {d hi i j : Nat} (W : Win x y d hi) {tx ty : List T} {t : T} (hR : runTo isWordy x i ≤ hi) (hb : behindP tx i = behindP ty (i + d)) (h : digTo x i (runTo isWordy x i) tx = .tok j t) : digTo y (i + d) (runTo isWordy x i + d) ty = .tok (j + d) (sh d t) ∧ j ≤ hi := by
  have hge := runTo_ge isWordy x i
  have hx := W.hx
  have hc : (i + 1 < runTo isWordy x i ∧ (at8 x i).toNat = 48 ∧ (at8 x (i + 1)).toNat = 99) ↔ (i + d + 1 < runTo isWordy x i + d ∧ (at8 y (i + d)).toNat = 48 ∧ (at8 y (i + d + 1)).toNat = 99) := by
    constructor
    · rintro ⟨h1, h2, h3⟩
      have e1 := W.same i (by omega)
      have e2 := W.same (i + 1) (by omega)
      rw [show i + 1 + d = i + d + 1 by omega] at e2
      rw [e1, e2]; exact ⟨by omega, h2, h3⟩
    · rintro ⟨h1, h2, h3⟩
      have e1 := W.same i (by omega)
      have e2 := W.same (i + 1) (by omega)
      rw [show i + 1 + d = i + d + 1 by omega] at e2
      rw [e1] at h2; rw [e2] at h3; exact ⟨by omega, h2, h3⟩
  have he := W.ext hge hR
  unfold digTo at h ⊢
  rw [he, ← hb]
  by_cases c1 : i + 1 < runTo isWordy x i ∧ (at8 x i).toNat = 48 ∧ (at8 x (i + 1)).toNat = 99
  · rw [if_pos c1] at h
    rw [if_pos (hc.1 c1)]
    by_cases c2 : (parseC (bs (x.extract i (runTo isWordy x i)))).2.2 = 0
    · rw [if_pos c2] at h ⊢
      have h5 := parseC_ok c2
      rw [bs_length, size_sub hge (by omega)] at h5
      injection h with h1 h2
      subst h1 h2
      exact ⟨by rw [shT, show i + d + 34 = i + 34 + d by omega], by omega⟩
    · rw [if_neg c2] at h; cases h
  · rw [if_neg c1] at h
    rw [if_neg (fun q => c1 (hc.2 q))]
    by_cases c2 : (x.extract i (runTo isWordy x i) == leastB) = true ∧ behindP tx i = true
    · rw [if_pos c2] at h ⊢
      injection h with h1 h2
      subst h1 h2
      exact ⟨by rw [shT], hR⟩
    · rw [if_neg c2] at h ⊢
      by_cases c3 : (parseS (bs (x.extract i (runTo isWordy x i)))).2 = 0
      · rw [if_pos c3] at h ⊢
        injection h with h1 h2
        subst h1 h2
        exact ⟨by rw [shT], hR⟩
      · rw [if_neg c3] at h; cases h
theorem Win.ends {x y : ByteArray} {d hi i : Nat} (W : Win x y d hi) (hi' : i < hi) : endsP y (i + d) = endsP x i := by
  have hx := W.hx
  have hy := W.hy
  unfold endsP
  rcases Nat.lt_or_ge (i + 1) hi with q | q
  · have e := W.same (i + 1) q
    rw [show i + 1 + d = i + d + 1 by omega] at e
    rw [e, decide_eq_false (show ¬ i + d + 1 = y.size by omega), decide_eq_false (show ¬ i + 1 = x.size by omega)]
  · have e : i + 1 = hi := by omega
    rcases W.stop with w | w
    · rw [decide_eq_true (show i + d + 1 = y.size by omega), decide_eq_true (show i + 1 = x.size by omega)]
      rfl
    · rw [e, show i + d + 1 = hi + d by omega, w.2.2.1, w.2.2.2]
      simp
/-- What is taken of x is taken of y, further on. -/
theorem Win.one {x y : ByteArray} {d hi i j mx my : Nat} (W : Win x y d hi) (hi' : i < hi) {tx ty : List T} {t : T} (ho : openP tx mx i = openP ty my (i + d)) (hb : behindP tx i = behindP ty (i + d)) (h : oneTo x i mx tx = .tok j t) : oneTo y (i + d) my ty = .tok (j + d) (sh d t) ∧ j ≤ hi := by
  have e0 := W.same i hi'
  obtain ⟨w1, w2⟩ := W.run (p := isWordy) (.inl fun c hc => by
    have : ∀ n : Fin 256, isWhite (UInt8.ofNat n.val) = true → isWordy (UInt8.ofNat n.val) = false := by decide +kernel
    have := this ⟨c.toNat, c.toNat_lt⟩
    simpa using this (by simpa using hc)) (Nat.le_of_lt hi')
  obtain ⟨s1, s2⟩ := W.run (p := isSign) (.inl fun c hc => by
    have : ∀ n : Fin 256, isWhite (UInt8.ofNat n.val) = true → isSign (UInt8.ofNat n.val) = false := by decide +kernel
    have := this ⟨c.toNat, c.toNat_lt⟩
    simpa using this (by simpa using hc)) (Nat.le_of_lt hi')
  have ew := W.ext (runTo_ge isWordy x i) w2
  have es := W.ext (runTo_ge isSign x i) s2
  unfold oneTo at h ⊢
  rw [e0, w1, s1, ew, es, ← ho, W.ends hi']
  split at h
  · rename_i c; rw [if_pos c]
    obtain ⟨rfl, _, _⟩ := nameTo_tok h
    exact ⟨name_sh h, w2⟩
  rename_i c; rw [if_neg c]; clear c
  split at h
  · rename_i c; rw [if_pos c]
    obtain ⟨rfl, _, _⟩ := nameTo_tok h
    exact ⟨name_sh h, w2⟩
  rename_i c; rw [if_neg c]; clear c
  split at h
  · rename_i c; rw [if_pos c]
    exact W.dig w2 hb h
  rename_i c; rw [if_neg c]; clear c
  split at h
  · rename_i c; rw [if_pos c]
    split at h
    · cases h
    · rename_i k b hq
      obtain ⟨q1, q2⟩ := W.quo (hi - (i + 1)) (i + 1) ⟨#[]⟩ (Nat.le_refl _) (by omega) hq
      rw [show i + d + 1 = i + 1 + d by omega, q2]
      obtain ⟨rfl, _, _⟩ := nameTo_tok h
      have := name_sh (d := d) h
      rw [show k + 1 + d = k + d + 1 by omega] at this
      exact ⟨by rw [show k + 1 + d = k + d + 1 by omega]; exact this, by omega⟩
  rename_i c; rw [if_neg c]; clear c
  split at h
  · rename_i c; rw [if_pos c]
    obtain ⟨rfl, _, _⟩ := nameTo_tok h
    rw [show i + d + 1 = i + 1 + d by omega]
    exact ⟨name_sh h, by omega⟩
  rename_i c; rw [if_neg c]; clear c
  split at h
  · rename_i c; rw [if_pos c]
    injection h with h1 h2
    subst h1 h2
    exact ⟨by rw [shT, show i + d + 1 = i + 1 + d by omega], by omega⟩
  rename_i c; rw [if_neg c]; clear c
  split at h
  · rename_i c; rw [if_pos c]
    injection h with h1 h2
    subst h1 h2
    exact ⟨by rw [shT, show i + d + 1 = i + 1 + d by omega], by omega⟩
  rename_i c; rw [if_neg c]; clear c
  split at h
  · rename_i c; rw [if_pos c]
    split at h
    · rename_i c2; rw [if_pos c2]
      injection h with h1 h2
      subst h1 h2
      exact ⟨by rw [shT, show i + d + 1 = i + 1 + d by omega], by omega⟩
    · rename_i c2; rw [if_neg c2]
      obtain ⟨rfl, _, _⟩ := nameTo_tok h
      exact ⟨name_sh h, s2⟩
  · cases h
end Go.Proofs.YtenpnejkgopghaaDoor.Tok
