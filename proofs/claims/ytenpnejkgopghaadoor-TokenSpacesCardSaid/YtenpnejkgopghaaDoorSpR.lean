/- The tokens of two texts with white space or a remark between are those of both. No program in sight. -/
import Derived.Test.YtenpnejkgopghaaDoorSpQ
set_option linter.unusedVariables false
set_option linter.unusedSectionVars false
set_option linter.unusedSimpArgs false
set_option maxRecDepth 100000
namespace Go.Proofs.YtenpnejkgopghaaDoor.Tok
open Go Go.RowKit
theorem sh_zero (t : T) : sh 0 t = t := by
  obtain ⟨k, x, n, a, b, p⟩ := t
  unfold sh
  simp
theorem one_white {s : ByteArray} {i m : Nat} {ts : List T} (h : isWhite (at8 s i) = true) : oneTo s i m ts = .bad 2 := by
  have hk : ∀ n : Fin 256, isWhite (UInt8.ofNat n.val) = true → isCap (UInt8.ofNat n.val) = false ∧ isSmall (UInt8.ofNat n.val) = false ∧ isDigit (UInt8.ofNat n.val) = false ∧ isPunct (UInt8.ofNat n.val) = false ∧ isSign (UInt8.ofNat n.val) = false := by decide +kernel
  have k := hk ⟨(at8 s i).toNat, (at8 s i).toNat_lt⟩
  simp only [UInt8.ofNat_toNat] at k
  obtain ⟨k1, k2, k3, k4, k5⟩ := k h
  have hw := white_cases h
  unfold oneTo
  rw [if_neg (by rw [k1]; decide), if_neg (by rw [k2]; decide), if_neg (by rw [k3]; decide), if_neg (by omega), if_neg (by omega), if_neg (by omega), if_neg (by rw [k4]; decide), if_neg (by rw [k5]; decide)]
/-- The first text's tokens. -/
theorem Win.lexA {x y : ByteArray} {hi : Nat} (W : Win x y 0 hi) (hx1 : hi + 1 = x.size) (hp : ∀ k, k < hi → (at8 x k).toNat ≠ 37) : ∀ (n i : Nat) (ts : List T), hi - i ≤ n → i ≤ hi → (∀ t ∈ ts, t.at_ < ((i : Nat) : Int)) → (lexTo x i ts).e = 0 →
    ∃ i2, i2 ≤ hi ∧ (∀ t ∈ (lexTo x i ts).ts, t.at_ < ((i2 : Nat) : Int)) ∧ lexTo y i ts = lexTo y i2 (lexTo x i ts).ts ∧ skipTo y i2 = skipTo y hi
  | n, i, ts, hn, hi', hat, he => by
    have hx := W.hx
    have hy := W.hy
    have hwh : isWhite (at8 x hi) = true := by
      rcases W.stop with w | w
      · omega
      · exact w.2.2.1
    have hk := skipTo_le (s := x) (i := i) (by omega)
    by_cases h0 : (skipTo x i).2 = true
    · have hs := W.skip hp (hi - i) i (Nat.le_refl _) hi' h0
      rw [Nat.add_zero, Nat.add_zero, Nat.add_zero] at hs
      by_cases h1 : (skipTo x i).1 = x.size
      · rcases hs with ⟨a1, a2, a3⟩ | ⟨a1, a2⟩
        · omega
        · rw [lex_end h0 h1]
          exact ⟨i, hi', hat, rfl, a2⟩
      · cases h2 : oneTo x (skipTo x i).1 i ts with
        | bad e =>
          rw [lex_bad h0 h1 h2] at he
          exact absurd he (oneTo_err h2)
        | tok j t =>
          rcases hs with ⟨a1, a2, a3⟩ | ⟨a1, a2⟩
          · have h3 := oneTo_on (by omega) h2
            obtain ⟨h4, h5⟩ := one_place (by omega) h2
            obtain ⟨o1, o2⟩ := W.one (tx := ts) (ty := ts) (mx := i) (my := i) a1 (by rw [Nat.add_zero]) (by rw [Nat.add_zero]) h2
            rw [Nat.add_zero, Nat.add_zero, sh_zero] at o1
            rw [lex_tok (by omega) h0 h1 h2] at he ⊢
            rw [lex_tok (s := y) (i := i) (j := j) (t := t) (by omega) (by rw [a3]) (by rw [a3]; show (skipTo x i).1 ≠ y.size; omega) (by rw [a3]; exact o1)]
            cases n with
            | zero => omega
            | succ n =>
              refine W.lexA hx1 hp n j (ts ++ [t]) (by omega) o2 (fun u hu => ?_) he
              rcases List.mem_append.1 hu with q | q
              · have := hat u q; omega
              · rw [List.mem_singleton.1 q]; omega
          · have e : (skipTo x i).1 = hi := by omega
            rw [e, one_white hwh] at h2
            cases h2
    · rw [lex_gap (Bool.eq_false_iff.2 h0)] at he
      cases he
theorem open_sh (pre ts : List T) (t : T) (d m i : Nat) : openP (pre ++ (ts ++ [t]).map (sh d)) (m + d) (i + d) = openP (ts ++ [t]) m i := by
  rw [List.map_append, ← List.append_assoc]
  show openP ((pre ++ ts.map (sh d)) ++ [sh d t]) _ _ = _
  rw [openP_snoc, openP_snoc]
  congr 1
  rw [decide_eq_decide]
  omega
theorem behind_sh (pre ts : List T) (t : T) (d i : Nat) : behindP (pre ++ (ts ++ [t]).map (sh d)) (i + d) = behindP (ts ++ [t]) i := by
  rw [List.map_append, ← List.append_assoc]
  show behindP ((pre ++ ts.map (sh d)) ++ [sh d t]) _ = _
  rw [behindP_snoc, behindP_snoc]
  congr 1
  rw [decide_eq_decide]
  show t.at_ + ((d : Nat) : Int) = _ ↔ _
  omega
/-- The second text's tokens, further on. -/
theorem Win.lexB {x y : ByteArray} {d : Nat} (W : Win x y d x.size) (hd : x.size + d = y.size) (pre : List T) : ∀ (n i : Nat) (ts : List T) (t : T), x.size - i ≤ n → i ≤ x.size → (lexTo x i (ts ++ [t])).e = 0 → lexTo y (i + d) (pre ++ (ts ++ [t]).map (sh d)) = ⟨pre ++ (lexTo x i (ts ++ [t])).ts.map (sh d), 0, 0⟩
  | n, i, ts, t, hn, hi', he => by
    have hs := W.skipEnd hd (x.size - i) i (Nat.le_refl _) hi'
    have hk := skipTo_le (s := x) (i := i) hi'
    by_cases h0 : (skipTo x i).2 = true
    · rw [h0] at hs
      by_cases h1 : (skipTo x i).1 = x.size
      · rw [lex_end h0 h1, lex_end (by rw [hs]) (by rw [hs, h1]; exact hd)]
      · cases h2 : oneTo x (skipTo x i).1 i (ts ++ [t]) with
        | bad e =>
          rw [lex_bad h0 h1 h2] at he
          exact absurd he (oneTo_err h2)
        | tok j u =>
          have h3 := oneTo_on (by omega) h2
          obtain ⟨o1, o2⟩ := W.one (ty := pre ++ (ts ++ [t]).map (sh d)) (my := i + d) (by omega) (open_sh pre ts t d i (skipTo x i).1).symm (behind_sh pre ts t d (skipTo x i).1).symm h2
          rw [lex_tok hi' h0 h1 h2] at he ⊢
          rw [lex_tok (s := y) (i := i + d) (j := j + d) (t := sh d u) (by omega) (by rw [hs]) (by rw [hs]; show (skipTo x i).1 + d ≠ y.size; omega) (by rw [hs]; exact o1)]
          cases n with
          | zero => omega
          | succ n =>
            have := W.lexB hd pre n j (ts ++ [t]) u (by omega) h3.2 he
            rw [← this]
            congr 1
            rw [List.append_assoc, List.map_append (l₁ := ts ++ [t])]
            rfl
    · rw [lex_gap (Bool.eq_false_iff.2 h0)] at he
      cases he
theorem behind_far {ts : List T} {i : Nat} (h : ∀ t ∈ ts, t.at_ ≠ ((i : Nat) : Int) - 1) : behindP ts i = false := by
  rcases List.eq_nil_or_concat ts with rfl | ⟨ts0, t, e⟩
  · rfl
  · rw [List.concat_eq_append] at e
    subst e
    rw [behindP_snoc, decide_eq_false (h t (by simp)), Bool.and_false]
theorem open_far {ts : List T} {m i : Nat} (h : m ≠ i) : openP ts m i = false := by
  rcases List.eq_nil_or_concat ts with rfl | ⟨ts0, t, e⟩
  · rfl
  · rw [List.concat_eq_append] at e
    subst e
    rw [openP_snoc, decide_eq_false h, Bool.and_false]
/-- The second text's tokens, behind the first's. -/
theorem Win.lexS {x y : ByteArray} {d i2 : Nat} (W : Win x y d x.size) (hd : x.size + d = y.size) (pre : List T) (hi2 : i2 < d) (hat : ∀ t ∈ pre, t.at_ < ((i2 : Nat) : Int)) (hs2 : skipTo y i2 = skipTo y d) (he : (lexTo x 0 []).e = 0) : lexTo y i2 pre = ⟨pre ++ (lexTo x 0 []).ts.map (sh d), 0, 0⟩ := by
  have hs := W.skipEnd hd x.size 0 (by omega) (Nat.zero_le _)
  rw [Nat.zero_add, ← hs2] at hs
  have hk := skipTo_le (s := x) (i := 0) (Nat.zero_le _)
  by_cases h0 : (skipTo x 0).2 = true
  · rw [h0] at hs
    by_cases h1 : (skipTo x 0).1 = x.size
    · rw [lex_end h0 h1, lex_end (by rw [hs]) (by rw [hs, h1]; exact hd)]
      simp
    · cases h2 : oneTo x (skipTo x 0).1 0 [] with
      | bad e =>
        rw [lex_bad h0 h1 h2] at he
        exact absurd he (oneTo_err h2)
      | tok j u =>
        have h3 := oneTo_on (by omega) h2
        obtain ⟨o1, o2⟩ := W.one (ty := pre) (my := i2) (by omega) (by rw [open_far (ts := pre) (by omega)]; rfl) (by rw [behind_far (ts := pre) fun t ht => by have := hat t ht; omega]; rfl) h2
        rw [lex_tok (Nat.zero_le _) h0 h1 h2] at he ⊢
        rw [lex_tok (s := y) (i := i2) (j := j + d) (t := sh d u) (by omega) (by rw [hs]) (by rw [hs]; show (skipTo x 0).1 + d ≠ y.size; omega) (by rw [hs]; exact o1)]
        exact W.lexB hd pre (x.size - j) j [] u (Nat.le_refl _) h3.2 he
  · rw [lex_gap (Bool.eq_false_iff.2 h0)] at he
    cases he
/-! ### What may stand between -/
def gap0 : ByteArray := ⟨#[32]⟩
def gap1 : ByteArray := ⟨#[10, 9, 32]⟩
def gap2 : ByteArray := ⟨#[32, 37, 32, 97, 32, 114, 101, 109, 97, 114, 107, 10]⟩
def gap3 : ByteArray := ⟨#[32, 47, 42, 32, 97, 110, 111, 116, 104, 101, 114, 32, 42, 32, 47, 32, 111, 110, 101, 32, 42, 47, 32]⟩
def IsGap (g : ByteArray) : Prop := g = gap0 ∨ g = gap1 ∨ g = gap2 ∨ g = gap3
theorem gap_first {g : ByteArray} (h : IsGap g) : 0 < g.size ∧ isWhite (at8 g 0) = true ∧ g.size ≤ 30 := by
  rcases h with rfl | rfl | rfl | rfl <;> decide
theorem gap_skip {y g : ByteArray} {n : Nat} (h : IsGap g) (hy : n + g.size ≤ y.size) (hb : ∀ k, k < g.size → at8 y (n + k) = at8 g k) : skipTo y n = skipTo y (n + g.size) := by
  have wh : ∀ (i j : Nat), i ≤ j → j ≤ g.size → (∀ k, i ≤ k → k < j → isWhite (at8 g k) = true) → skipTo y (n + i) = skipTo y (n + j) := fun i j hij hj hw =>
    skip_whites (by omega) (by omega) fun k k1 k2 => by
      have := hb (k - n) (by omega)
      rw [show n + (k - n) = k by omega] at this
      rw [this]; exact hw _ (by omega) (by omega)
  rcases h with rfl | rfl | rfl | rfl
  · have z : gap0.size = 1 := rfl
    have := wh 0 1 (by omega) (by omega) (fun k _ hk => by rw [show k = 0 by omega]; decide)
    rw [z]; simpa using this
  · have z : gap1.size = 3 := rfl
    have := wh 0 3 (by omega) (by omega) (fun k _ hk => by
      have : ∀ j : Fin 3, isWhite (at8 gap1 j.val) = true := by decide
      exact this ⟨k, hk⟩)
    rw [z]; simpa using this
  · have z : gap2.size = 12 := rfl
    rw [z] at hy hb ⊢
    have b0 : at8 y n = 32 := hb 0 (by omega)
    have b1 : at8 y (n + 1) = 37 := hb 1 (by omega)
    have hr : runTo isWhite y n = n + 1 := runTo_eq (by omega) (by omega) (.inr (by rw [b1]; decide)) fun k k1 k2 => by
      obtain rfl : k = n := by omega
      rw [b0]; decide
    have hr2 : runTo notNl y (n + 1) = n + 11 := runTo_eq (by omega) (by omega) (.inr (by rw [hb 11 (by omega)]; decide)) fun k k1 k2 => by
      have := hb (k - n) (by omega)
      rw [show n + (k - n) = k by omega] at this
      rw [this]
      have hf : ∀ j : Fin 12, 1 ≤ j.val → j.val < 11 → notNl (at8 gap2 j.val) = true := by decide
      exact hf ⟨k - n, by omega⟩ (by show 1 ≤ k - n; omega) (by show k - n < 11; omega)
    have s1 : skipStep y n = .inl (n + 11) := by
      rw [skip_pct (by rw [hr]; omega) (by rw [hr, b1]; decide), hr, hr2]
    rw [skipTo_on (by omega) s1]
    exact skip_whites (by omega) (by omega) fun k k1 k2 => by
      obtain rfl : k = n + 11 := by omega
      rw [hb 11 (by omega)]; decide
  · have z : gap3.size = 23 := rfl
    rw [z] at hy hb ⊢
    have b0 : at8 y n = 32 := hb 0 (by omega)
    have b1 : at8 y (n + 1) = 47 := hb 1 (by omega)
    have b2 : at8 y (n + 2) = 42 := hb 2 (by omega)
    have hr : runTo isWhite y n = n + 1 := runTo_eq (by omega) (by omega) (.inr (by rw [b1]; decide)) fun k k1 k2 => by
      obtain rfl : k = n := by omega
      rw [b0]; decide
    have hc : findClose y (n + 1 + 2) = n + 20 := findClose_eq (by omega) (by rw [hb 20 (by omega)]; decide) (by rw [show n + 20 + 1 = n + 21 by omega, hb 21 (by omega)]; decide) 20 (n + 1 + 2) (by omega) (by omega) fun j j1 j2 => by
      have e1 := hb (j - n) (by omega)
      have e2 := hb (j - n + 1) (by omega)
      rw [show n + (j - n) = j by omega] at e1
      rw [show n + (j - n + 1) = j + 1 by omega] at e2
      rw [e1, e2]
      have hf : ∀ j : Fin 23, 3 ≤ j.val → j.val < 20 → ¬ ((at8 gap3 j.val).toNat = 42 ∧ (at8 gap3 (j.val + 1)).toNat = 47) := by decide
      exact hf ⟨j - n, by omega⟩ (by show 3 ≤ j - n; omega) (by show j - n < 20; omega)
    have s1 : skipStep y n = .inl (n + 22) := by
      rw [skip_go (by rw [hr]; omega) (by rw [hr, b1]; decide) (by rw [hr, show n + 1 + 1 = n + 2 by omega, b2]; decide) (by rw [hr, hc]; omega), hr, hc]
    rw [skipTo_on (by omega) s1]
    exact skip_whites (by omega) (by omega) fun k k1 k2 => by
      obtain rfl : k = n + 22 := by omega
      rw [hb 22 (by omega)]; decide
theorem spaces_lex {a b g : ByteArray} (hg : IsGap g) (hna : ∀ k, k < a.size → (at8 a k).toNat ≠ 37) (e1 : (lexTo (a ++ ⟨#[32]⟩) 0 []).e = 0) (e2 : (lexTo b 0 []).e = 0) :
    lexTo (a ++ g ++ b) 0 [] = ⟨(lexTo (a ++ ⟨#[32]⟩) 0 []).ts ++ (lexTo b 0 []).ts.map (sh (a.size + g.size)), 0, 0⟩ := by
  obtain ⟨x, hx⟩ : ∃ x, x = a ++ ⟨#[32]⟩ := ⟨_, rfl⟩
  obtain ⟨y, hy⟩ : ∃ y, y = a ++ g ++ b := ⟨_, rfl⟩
  obtain ⟨g1, g2, _⟩ := gap_first hg
  have zx : x.size = a.size + 1 := by rw [hx, ByteArray.size_append]; rfl
  have zy : y.size = a.size + g.size + b.size := by rw [hy, ByteArray.size_append, ByteArray.size_append]
  have ya : ∀ k, k < a.size → at8 y k = at8 a k := fun k hk => by rw [hy, at8_left (by rw [ByteArray.size_append]; omega), at8_left hk]
  have yg : ∀ k, k < g.size → at8 y (a.size + k) = at8 g k := fun k hk => by rw [hy, at8_left (by rw [ByteArray.size_append]; omega), at8_right (by omega), show a.size + k - a.size = k by omega]
  have yb : ∀ k, k < b.size → at8 y (k + (a.size + g.size)) = at8 b k := fun k hk => by rw [hy, at8_right (by rw [ByteArray.size_append]; omega), ByteArray.size_append, show k + (a.size + g.size) - (a.size + g.size) = k by omega]
  have xs : at8 x a.size = 32 := by rw [hx, at8_right (Nat.le_refl _), Nat.sub_self]; rfl
  have W1 : Win x y 0 a.size := ⟨fun k hk => by rw [Nat.add_zero, ya k hk, hx, at8_left hk], .inr ⟨zx.symm, by omega, by rw [xs]; decide, by rw [Nat.add_zero]; have := yg 0 g1; rw [Nat.add_zero] at this; rw [this]; exact g2⟩⟩
  have W2 : Win b y (a.size + g.size) b.size := ⟨yb, .inl ⟨rfl, by omega⟩⟩
  rw [← hx] at e1 ⊢
  rw [← hy]
  obtain ⟨i2, p1, p2, p3, p4⟩ := W1.lexA zx.symm (fun k hk => by rw [hx, at8_left hk]; exact hna k hk) a.size 0 [] (by omega) (Nat.zero_le _) (fun t ht => by cases ht) e1
  rw [p3]
  exact W2.lexS (by omega) _ (by omega) p2 (by rw [p4, gap_skip hg (by omega) yg]) e2
end Go.Proofs.YtenpnejkgopghaaDoor.Tok
