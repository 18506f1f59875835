/- Numbers' texts as tokens. No program in sight. -/
import Derived.Test.YtenpnejkgopghaaDoorLexW
import Derived.Test.YtenpnejkgopghaaDoorBackN
import Derived.Test.YtenpnejkgopghaaDoorBackC
set_option linter.unusedVariables false
set_option linter.unusedSectionVars false
set_option linter.unusedSimpArgs false
set_option maxRecDepth 100000
namespace Go.Proofs.YtenpnejkgopghaaDoor.Tok
open Go Go.RowKit Go.Proofs.YtenpnejkgopghaaDoor.Form Go.Proofs.YtenpnejkgopghaaDoor.ParseC Go.Proofs.YtenpnejkgopghaaDoor.Put
theorem bs_at {s : ByteArray} {k : Nat} (h : k < s.size) : (bs s)[k]? = some (at8 s k) := by
  rw [List.getElem?_eq_getElem (by rw [bs_length]; exact h), at8_eq h]; rfl
theorem dig_kinds {c : UInt8} (h : isDig c = true) : isCap c = false ∧ isSmall c = false ∧ isDigit c = true ∧ isWordy c = true ∧ isWhite c = false ∧ isSign c = false ∧ c.toNat ≠ 37 ∧ c.toNat ≠ 47 ∧ c.toNat ≠ 99 := by
  have h : ∀ n : Fin 256, (isDig (UInt8.ofNat n.val) = true → isCap (UInt8.ofNat n.val) = false ∧ isSmall (UInt8.ofNat n.val) = false ∧ isDigit (UInt8.ofNat n.val) = true ∧ isWordy (UInt8.ofNat n.val) = true ∧ isWhite (UInt8.ofNat n.val) = false ∧ isSign (UInt8.ofNat n.val) = false ∧ (UInt8.ofNat n.val).toNat ≠ 37 ∧ (UInt8.ofNat n.val).toNat ≠ 47 ∧ (UInt8.ofNat n.val).toNat ≠ 99) := by decide +kernel
  have := h ⟨c.toNat, c.toNat_lt⟩
  simpa using this (by simpa using ‹isDig c = true›)
/-- Digits to the text's end. -/
theorem one_digits {s : ByteArray} {i m : Nat} {ts : List T} (hi : i < s.size) (hd : ∀ k, i ≤ k → k < s.size → isDig (at8 s k) = true) :
    skipTo s i = (i, true) ∧ oneTo s i m ts = if (s.extract i s.size == leastB) = true ∧ behindP ts i = true then .tok s.size ⟨4, ⟨#[]⟩, -9223372036854775808, 0, 0, ((i : Nat) : Int)⟩
      else if (parseS (bs (s.extract i s.size))).2 = 0 then .tok s.size ⟨4, ⟨#[]⟩, (parseS (bs (s.extract i s.size))).1, 0, 0, ((i : Nat) : Int)⟩ else .bad (parseS (bs (s.extract i s.size))).2 := by
  obtain ⟨k1, k2, k3, k4, k5, k6, k7, k8, _⟩ := dig_kinds (hd i (Nat.le_refl _) hi)
  have hR : runTo isWordy s i = s.size := runTo_eq (by omega) (Nat.le_refl _) (.inl rfl) fun k h1 h2 => (dig_kinds (hd k h1 h2)).2.2.2.1
  refine ⟨skip_here (by omega) k5 ⟨k7, k8⟩, ?_⟩
  unfold oneTo
  rw [if_neg (by rw [k1]; decide), if_neg (by rw [k2]; decide), if_pos k3, hR]
  unfold digTo
  rw [if_neg]
  rintro ⟨h1, _, h3⟩
  exact (dig_kinds (hd (i + 1) (by omega) h1)).2.2.2.2.2.2.2.2 h3
theorem all_at {s : ByteArray} {p : UInt8 → Bool} (h : (bs s).all p = true) : ∀ k, k < s.size → p (at8 s k) = true := fun k hk =>
  List.all_eq_true.1 h _ (List.mem_of_getElem? (bs_at hk))
theorem lex_nat {n : Int} {s : ByteArray} (h0 : 0 ≤ n) (h1 : n ≤ 9223372036854775807) (hs : bs s = Lib.itoa n) : lexTo s 0 [] = ⟨[⟨4, ⟨#[]⟩, n, 0, 0, 0⟩], 0, 0⟩ := by
  have hi : Lib.itoa n = Lib.decDigits n.toNat := by unfold Lib.itoa; rw [if_neg (by omega)]
  obtain ⟨d1, d2, d3, d4⟩ := dec_facts n.toNat n.toNat (Nat.le_refl _)
  have hall : ∀ k, k < s.size → isDig (at8 s k) = true := all_at (by rw [hs, hi]; exact d1)
  have hz : 0 < s.size := by
    rw [← bs_length, hs, hi]
    exact List.length_pos_iff.2 d3
  have he : s.extract 0 s.size = s := ext_is (by omega) (Nat.le_refl _) fun k _ => by rw [Nat.zero_add]
  obtain ⟨o1, o2⟩ := one_digits (s := s) (i := 0) (m := 0) (ts := []) hz fun k _ hk => hall k hk
  have hp : parseS (bs s) = (n, 0) := by rw [hs]; exact back_num n (by omega) h1
  rw [he, hp, if_neg (fun h => by cases h.2), if_pos rfl] at o2
  rw [lex_tok (Nat.zero_le _) (by rw [o1]) (by rw [o1]; show 0 ≠ s.size; omega) (by rw [o1]; exact o2), lex_stop]
  rfl
theorem least_digits : Lib.decDigits 9223372036854775808 = bs leastB := by
  repeat (first | rw [dec_small (by decide)] | rw [dec_step (by decide)])
  rfl
theorem lex_neg {n : Int} {s : ByteArray} (h0 : -9223372036854775808 ≤ n) (h1 : n < 0) (hs : bs s = Lib.itoa n) : lexTo s 0 [] = ⟨[⟨1, ⟨#[45]⟩, 0, 0, 0, 0⟩, ⟨4, ⟨#[]⟩, (if n = -9223372036854775808 then n else -n), 0, 0, 1⟩], 0, 0⟩ := by
  have hi : Lib.itoa n = 45 :: Lib.decDigits n.natAbs := by unfold Lib.itoa; rw [if_pos h1]
  obtain ⟨d1, d2, d3, d4⟩ := dec_facts n.natAbs n.natAbs (Nat.le_refl _)
  rw [hi] at hs
  have hz : s.size = (Lib.decDigits n.natAbs).length + 1 := by rw [← bs_length, hs]; rfl
  have hd : 0 < (Lib.decDigits n.natAbs).length := List.length_pos_iff.2 d3
  have e0 : at8 s 0 = 45 := by
    have := bs_at (s := s) (k := 0) (by omega)
    rw [hs] at this
    exact (Option.some.inj this).symm
  have hall : ∀ k, 1 ≤ k → k < s.size → isDig (at8 s k) = true := fun k h2 h3 => by
    have h4 := bs_at h3
    rw [hs] at h4
    obtain ⟨k', rfl⟩ : ∃ k', k = k' + 1 := ⟨k - 1, by omega⟩
    rw [List.getElem?_cons_succ] at h4
    exact List.all_eq_true.1 d1 _ (List.mem_of_getElem? h4)
  have hx : bs (s.extract 1 s.size) = Lib.decDigits n.natAbs := by
    rw [bs_extract s 1, hs]; rfl
  have hR : runTo isSign s 0 = 1 := runTo_eq (by omega) (by omega) (.inr (dig_kinds (hall 1 (Nat.le_refl _) (by omega))).2.2.2.2.2.1) fun k _ hk => by
    obtain rfl : k = 0 := by omega
    rw [e0]; decide
  have hx1 : s.extract 0 1 = ⟨#[45]⟩ := by rw [sub_one (by omega), e0]
  have hsk := skip_here (s := s) (i := 0) (by omega) (by rw [e0]; decide) (by rw [e0]; decide)
  have ho : oneTo s 0 0 [] = .tok 1 ⟨1, ⟨#[45]⟩, 0, 0, 0, ((0 : Nat) : Int)⟩ := by
    unfold oneTo
    rw [e0, hR, hx1, if_neg (by decide), if_neg (by decide), if_neg (by decide), if_neg (by decide), if_neg (by decide), if_neg (fun h => absurd h.1 (by decide)), if_neg (by decide), if_pos (by decide), if_neg (fun h => absurd h.1 (by decide)), nameTo_one]
  obtain ⟨o1, o2⟩ := one_digits (s := s) (i := 1) (m := 1) (ts := [] ++ [(⟨1, ⟨#[45]⟩, 0, 0, 0, ((0 : Nat) : Int)⟩ : T)]) (by omega) hall
  have o3 : oneTo s 1 1 ([] ++ [(⟨1, ⟨#[45]⟩, 0, 0, 0, ((0 : Nat) : Int)⟩ : T)]) = .tok s.size ⟨4, ⟨#[]⟩, (if n = -9223372036854775808 then n else -n), 0, 0, ((1 : Nat) : Int)⟩ := by
    rw [o2]
    by_cases hm : n = -9223372036854775808
    · have hl : (s.extract 1 s.size == leastB) = true := by
        rw [ba_beq]
        apply ByteArray.ext
        apply Array.toList_inj.1
        show bs _ = bs _
        rw [hx, hm]
        exact least_digits
      rw [if_pos ⟨hl, by decide⟩, if_pos hm, hm]
    · have hl : ¬ ((s.extract 1 s.size == leastB) = true ∧ behindP ([] ++ [(⟨1, ⟨#[45]⟩, 0, 0, 0, ((0 : Nat) : Int)⟩ : T)]) 1 = true) := by
        rintro ⟨h, _⟩
        have h2 := (ba_beq _ _).1 h
        have h3 : Lib.decDigits n.natAbs = Lib.decDigits 9223372036854775808 := by rw [least_digits, ← hx, h2]
        have h4 := (dec_facts 9223372036854775808 9223372036854775808 (Nat.le_refl _)).2.1
        rw [← h3, d2] at h4
        omega
      have hp : parseS (bs (s.extract 1 s.size)) = (-n, 0) := by
        rw [hx]
        have := back_num (-n) (by omega) (by omega)
        unfold Lib.itoa at this
        rwa [if_neg (by omega), show (-n).toNat = n.natAbs by omega] at this
      rw [if_neg hl, hp, if_pos rfl, if_neg hm]
  rw [lex_tok (Nat.zero_le _) (by rw [hsk]) (by rw [hsk]; show 0 ≠ s.size; omega) (by rw [hsk]; exact ho)]
  rw [lex_tok (by omega) (by rw [o1]) (by rw [o1]; show 1 ≠ s.size; omega) (by rw [o1]; exact o3), lex_stop]
  rfl
theorem lex_cpx {p q : Int} (hp : 0 ≤ p ∧ p < 18446744073709551616) (hq : 0 ≤ q ∧ q < 18446744073709551616) : lexTo (strOfNums (textC p q)) 0 [] = ⟨[⟨5, ⟨#[]⟩, 0, p, q, 0⟩], 0, 0⟩ := by
  obtain ⟨s, hs⟩ : ∃ s, s = strOfNums (textC p q) := ⟨_, rfl⟩
  have hb : bs s = by8 (textC p q) := by rw [hs]; rfl
  have hz : s.size = 34 := by rw [hs, strOfNums_size]; simp [textC, hexs_length]
  have hall : (bs s).all isWordy = true := by
    have hh : ∀ x : Int, (by8 (hexs x 16)).all isWordy = true := fun x => by
      unfold by8 hexs
      rw [List.all_eq_true]
      intro c hc
      obtain ⟨v, hv, rfl⟩ := List.mem_map.1 hc
      obtain ⟨t, _, rfl⟩ := List.mem_map.1 hv
      have : ∀ m : Fin 16, isWordy (UInt8.ofNat (hexd m.val).toNat) = true := by decide
      exact this ⟨_, Nat.mod_lt _ (by omega)⟩
    rw [hb]
    unfold textC by8
    rw [List.map_append, List.map_append, List.all_append, List.all_append]
    have h1 := hh p
    have h2 := hh q
    unfold by8 at h1 h2
    rw [h1, h2]; rfl
  have e0 : at8 s 0 = 48 := by
    have := bs_at (s := s) (k := 0) (by omega)
    rw [hb] at this
    exact (Option.some.inj this).symm
  have e1 : at8 s 1 = 99 := by
    have := bs_at (s := s) (k := 1) (by omega)
    rw [hb] at this
    exact (Option.some.inj this).symm
  have hR : runTo isWordy s 0 = 34 := runTo_eq (by omega) (by omega) (.inl hz.symm) fun k _ hk => all_at hall k (by omega)
  have he : s.extract 0 34 = s := ext_is (by omega) (by omega) fun k _ => by rw [Nat.zero_add]
  have hpc : parseC (bs s) = (p, q, 0) := by
    rw [hs]; exact parse_text p q hp hq
  have ho : oneTo s 0 0 [] = .tok s.size ⟨5, ⟨#[]⟩, 0, p, q, ((0 : Nat) : Int)⟩ := by
    unfold oneTo
    rw [e0, if_neg (by decide), if_neg (by decide), if_pos (by decide), hR]
    unfold digTo
    rw [e0, e1, if_pos (by decide), he, hpc, if_pos rfl, hz]
  have hsk := skip_here (s := s) (i := 0) (by omega) (by rw [e0]; decide) (by rw [e0]; decide)
  rw [← hs, lex_tok (Nat.zero_le _) (by rw [hsk]) (by rw [hsk]; show 0 ≠ s.size; omega) (by rw [hsk]; exact ho), lex_stop]
  rfl
end Go.Proofs.YtenpnejkgopghaaDoor.Tok
