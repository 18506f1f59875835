/- Proved: elenchusref1.Parse answers what number.Parse answers. Conditions: the text is no longer than the reach. -/
import Derived.Test.YtbkojghbgoejcaaDoorParse
import Derived.Test.YtbkojghbgoejcaaDoorPrD
namespace Go.Proofs.YtbkojghbgoejcaaDoor.Form
open Go Go.RowKit Go.Proofs.YtbkojghbgoejcaaDoorW.PrintWords Go.Proofs.YtbkojghbgoejcaaDoor.Pr

/-- The number of decimal digits, the ones ahead being worth acc. -/
def val (acc : Nat) (l : List UInt8) : Nat := l.foldl (fun a c => a * 10 + (c.toNat - 48)) acc
theorem val_cons (acc : Nat) (c : UInt8) (l : List UInt8) : val acc (c :: l) = val (acc * 10 + (c.toNat - 48)) l := by unfold val; rw [List.foldl_cons]
theorem val_lower : ∀ (l : List UInt8) (acc : Nat), acc * 10 ^ l.length ≤ val acc l
  | [], acc => by simp [val]
  | c :: l, acc => by
    rw [val_cons, List.length_cons, Nat.pow_succ]
    refine Nat.le_trans ?_ (val_lower l _)
    rw [Nat.add_mul, Nat.mul_comm (10 ^ l.length) 10, ← Nat.mul_assoc]
    exact Nat.le_add_right _ _
theorem val_upper : ∀ (l : List UInt8) (acc : Nat), l.all isDig = true → val acc l < (acc + 1) * 10 ^ l.length
  | [], acc, _ => by simp [val]
  | c :: l, acc, h => by
    simp only [List.all_cons, Bool.and_eq_true] at h
    have hd := dig_num c h.1
    rw [val_cons, List.length_cons, Nat.pow_succ]
    refine Nat.lt_of_lt_of_le (val_upper l _ h.2) ?_
    rw [Nat.mul_comm (10 ^ l.length) 10, ← Nat.mul_assoc]
    exact Nat.mul_le_mul_right _ (by omega)
theorem uint_val : ∀ (l : List UInt8) (acc : Nat), l.all isDig = true → acc ≤ 18446744073709551615 → Lib.parseUintM 18446744073709551615 acc l = if val acc l ≤ 18446744073709551615 then .ok (val acc l) else .range := by
  intro l
  induction l with
  | nil =>
    intro acc _ h
    unfold Lib.parseUintM
    have e : val acc [] = acc := rfl
    rw [e, if_pos h]
  | cons c l ih =>
    intro acc h ha
    simp only [List.all_cons, Bool.and_eq_true] at h
    have hd := dig_num c h.1
    unfold Lib.parseUintM
    rw [if_pos hd, val_cons]
    have hl := val_lower l (acc * 10 + (c.toNat - 48))
    have hp : 1 ≤ 10 ^ l.length := Nat.one_le_pow _ _ (by omega)
    have hm : (acc * 10 + (c.toNat - 48)) ≤ (acc * 10 + (c.toNat - 48)) * 10 ^ l.length := Nat.le_mul_of_pos_right _ hp
    split
    · rw [if_neg (by omega)]
    · split
      · rw [if_neg (by omega)]
      · exact ih _ h.2 (by omega)

/-- What Parse answers of a text that is a decimal, by its digits. -/
theorem parseS_val (l : List UInt8) (h : formB l = true) : parseS l = if l.head? = some 45 then (if val 0 (body l) ≤ 9223372036854775808 then (-(val 0 (body l) : Int), 0) else (0, 6)) else (if val 0 (body l) < 9223372036854775808 then ((val 0 (body l) : Int), 0) else (0, 6)) := by
  have h2 := form_body l h
  have e : Lib.parseUintB 64 (body l) = Lib.parseUintM 18446744073709551615 0 (body l) := by unfold Lib.parseUintB; rw [if_neg h2.2]
  have hv := uint_val (body l) 0 h2.1 (by omega)
  unfold parseS
  rw [if_pos h]
  generalize val 0 (body l) = v at *
  have p : (2 : Nat) ^ 63 = 9223372036854775808 := by decide
  by_cases hr : v ≤ 18446744073709551615
  · rw [if_pos hr] at hv
    rw [int_ok l h v (e.trans hv), p]
    by_cases hh : l.head? = some 45
    · simp only [hh, not_true, false_and, if_false, true_and, if_true]
      by_cases hw : v ≤ 9223372036854775808
      · rw [if_neg (by omega), if_pos hw]
      · rw [if_pos (by omega), if_neg hw]
    · simp only [hh, not_false_eq_true, true_and, false_and, if_false]
      by_cases hw : v < 9223372036854775808
      · rw [if_neg (by omega), if_pos hw]
      · rw [if_pos (by omega), if_neg hw]
  · rw [if_neg hr] at hv
    rw [int_range l h (e.trans hv)]
    by_cases hh : l.head? = some 45
    · rw [if_pos hh, if_neg (by omega)]
    · rw [if_neg hh, if_neg (by omega)]

theorem bt_list (d : ByteArray) (i : Nat) (h : i < d.size) : bt d (i : Int) = ((d.data.toList.drop i).headD 0).toNat := by
  have hl : d.data.toList.length = d.size := by cases d; rfl
  unfold bt
  rw [dif_pos (by simpa using h), List.drop_eq_getElem_cons (by omega)]
  rfl
theorem drop_cons (d : ByteArray) (i : Nat) (h : i < d.size) : ∃ c, d.data.toList.drop i = c :: d.data.toList.drop (i + 1) ∧ bt d (i : Int) = (c.toNat : Int) := by
  have hl : d.data.toList.length = d.size := by cases d; rfl
  refine ⟨d.data.toList[i]'(by omega), List.drop_eq_getElem_cons (by omega), ?_⟩
  rw [bt_list d i h, List.drop_eq_getElem_cons (by omega)]
  rfl
theorem wrap_next (i n : Nat) (h : i < n) (hn : n ≤ 140737488351232) : wrap64 ((i : Int) + 1) = ((i + 1 : Nat) : Int) := by unfold wrap64; omega

theorem ref_l0 (s d : ByteArray) (hd : d.size ≤ 140737488351232) (r : Int × Int) (K : Nat) (hr : ∀ k, K ≤ k → (if (d.size : Int) > 19 then some (0, 6) else elenchusref1_Parse.l1 k s d 0 (d.size : Int) 0) = some r) :
    ∀ (m : Nat) (i : Nat) (k : Nat), d.size - i = m → i ≤ d.size → K + m + 1 ≤ k → elenchusref1_Parse.l0 k s d (d.size : Int) (i : Int) = some (if (d.data.toList.drop i).all isDig then r else (0, 2)) := by
  have hl : d.data.toList.length = d.size := by cases d; rfl
  intro m
  induction m with
  | zero =>
    intro i k hm hi hk
    obtain ⟨k, rfl⟩ : ∃ q, k = q + 1 := ⟨k - 1, by omega⟩
    simp only [elenchusref1_Parse.l0]
    rw [if_neg (by omega), hr k (by omega), List.drop_eq_nil_of_le (by omega)]
    rfl
  | succ m ih =>
    intro i k hm hi hk
    obtain ⟨k, rfl⟩ : ∃ q, k = q + 1 := ⟨k - 1, by omega⟩
    obtain ⟨c, hc, hb⟩ := drop_cons d i (by omega)
    simp only [elenchusref1_Parse.l0]
    rw [if_pos (by omega), if_pos (by omega), if_pos (by omega), hb, wrap_next i d.size (by omega) hd, hc, List.all_cons]
    by_cases h1 : (c.toNat : Int) < 48
    · rw [if_pos h1]
      have : isDig c = false := by unfold isDig; simp; omega
      rw [this]; rfl
    · rw [if_neg h1]
      by_cases h2 : (c.toNat : Int) > 57
      · rw [if_pos h2]
        have : isDig c = false := by unfold isDig; simp; omega
        rw [this]; rfl
      · rw [if_neg h2, ih (i + 1) k (by omega) (by omega) (by omega)]
        have : isDig c = true := by unfold isDig; simp; omega
        rw [this, Bool.true_and]

theorem ref_l0_bad (s d : ByteArray) (hd : d.size ≤ 140737488351232) : ∀ (m : Nat) (i : Nat) (k : Nat), d.size - i = m → i ≤ d.size → m + 1 ≤ k → (d.data.toList.drop i).all isDig = false → elenchusref1_Parse.l0 k s d (d.size : Int) (i : Int) = some (0, 2) := by
  have hl : d.data.toList.length = d.size := by cases d; rfl
  intro m
  induction m with
  | zero =>
    intro i k hm hi hk ha
    rw [List.drop_eq_nil_of_le (by omega)] at ha
    cases ha
  | succ m ih =>
    intro i k hm hi hk ha
    obtain ⟨k, rfl⟩ : ∃ q, k = q + 1 := ⟨k - 1, by omega⟩
    obtain ⟨c, hc, hb⟩ := drop_cons d i (by omega)
    rw [hc, List.all_cons] at ha
    simp only [elenchusref1_Parse.l0]
    rw [if_pos (by omega), if_pos (by omega), if_pos (by omega), hb, wrap_next i d.size (by omega) hd]
    by_cases h1 : (c.toNat : Int) < 48
    · rw [if_pos h1]
    · rw [if_neg h1]
      by_cases h2 : (c.toNat : Int) > 57
      · rw [if_pos h2]
      · rw [if_neg h2]
        have : isDig c = true := by unfold isDig; simp; omega
        rw [this, Bool.true_and] at ha
        exact ih (i + 1) k (by omega) (by omega) (by omega) ha

/-- What is told of a number by the sign ahead. -/
def told (s : List UInt8) (n : Nat) : Int × Int :=
  if s.head? = some 45 then (if n ≤ 9223372036854775808 then (-(n : Int), 0) else (0, 6)) else (if n < 9223372036854775808 then ((n : Int), 0) else (0, 6))

theorem ref_l1 (s d : ByteArray) (hs : 0 < s.size) (hd : d.size ≤ 140737488351232) : ∀ (m : Nat) (i acc : Nat) (k : Nat), d.size - i = m → i ≤ d.size → m + 2 ≤ k → (d.data.toList.drop i).all isDig = true → val acc (d.data.toList.drop i) < 18446744073709551616 →
    elenchusref1_Parse.l1 k s d (acc : Int) (d.size : Int) (i : Int) = some (told s.data.toList (val acc (d.data.toList.drop i))) := by
  have hl : d.data.toList.length = d.size := by cases d; rfl
  intro m
  induction m with
  | zero =>
    intro i acc k hm hi hk ha hv
    obtain ⟨k, rfl⟩ : ∃ q, k = q + 2 := ⟨k - 2, by omega⟩
    rw [List.drop_eq_nil_of_le (by omega)] at hv ⊢
    have e0 : val acc [] = acc := rfl
    rw [e0] at hv ⊢
    obtain ⟨c, hc, hb⟩ := drop_cons s 0 hs
    rw [List.drop_zero] at hc
    have hb' : bt s 0 = (c.toNat : Int) := hb
    have ew (x : Int) : IntKind.u64.wrap x = x % 18446744073709551616 := rfl
    have hh : (s.data.toList.head? = some 45) ↔ (c.toNat : Int) = 45 := by
      rw [hc, List.head?_cons, Option.some.injEq]
      constructor
      · intro h; rw [h]; rfl
      · intro h; exact UInt8.toNat_inj.1 (show c.toNat = 45 by omega)
    simp only [elenchusref1_Parse.l1, elenchusref1_Parse.j5]
    rw [if_neg (by omega), if_pos (by omega), hb']
    unfold told
    by_cases h45 : (c.toNat : Int) = 45
    · rw [if_pos h45, if_pos (hh.2 h45)]
      by_cases hv2 : acc ≤ 9223372036854775808
      · rw [if_pos (by simp; omega), if_pos hv2, ew]
        congr 2; unfold wrap64; omega
      · rw [if_neg (by simp; omega), if_pos (by omega), if_pos h45, if_neg hv2]
    · rw [if_neg h45, if_neg (fun h => h45 (hh.1 h))]
      simp only [Bool.false_eq_true, if_false]
      rw [if_pos (by omega), if_neg h45]
      by_cases hv2 : acc < 9223372036854775808
      · rw [if_pos (by omega), if_pos hv2]
        congr 2; unfold wrap64; omega
      · rw [if_neg (by omega), if_neg hv2]
  | succ m ih =>
    intro i acc k hm hi hk ha hv
    obtain ⟨k, rfl⟩ : ∃ q, k = q + 1 := ⟨k - 1, by omega⟩
    obtain ⟨c, hc, hb⟩ := drop_cons d i (by omega)
    rw [hc] at ha hv ⊢
    simp only [List.all_cons, Bool.and_eq_true] at ha
    have hdg := dig_num c ha.1
    rw [val_cons] at hv ⊢
    have hlow := val_lower (d.data.toList.drop (i + 1)) (acc * 10 + (c.toNat - 48))
    have hp : 1 ≤ 10 ^ (d.data.toList.drop (i + 1)).length := Nat.one_le_pow _ _ (by omega)
    have hmm : (acc * 10 + (c.toNat - 48)) ≤ (acc * 10 + (c.toNat - 48)) * 10 ^ (d.data.toList.drop (i + 1)).length := Nat.le_mul_of_pos_right _ hp
    have ew (x : Int) : IntKind.u64.wrap x = x % 18446744073709551616 := rfl
    simp only [elenchusref1_Parse.l1]
    rw [if_pos (by omega), if_pos (by omega), if_pos (by omega), hb, wrap_next i d.size (by omega) hd]
    have e : IntKind.u64.wrap (IntKind.u64.wrap (10 * (acc : Int)) + ((c.toNat : Int) - 48) % 256) = ((acc * 10 + (c.toNat - 48) : Nat) : Int) := by
      rw [ew, ew]; omega
    rw [e]
    exact ih (i + 1) _ k (by omega) (by omega) (by omega) ha.2 hv

theorem extract_one (s : ByteArray) : (s.extract 1 s.size).data.toList = s.data.toList.drop 1 := by
  have hl : s.data.toList.length = s.size := by cases s; rfl
  simp only [ByteArray.data_extract, Array.toList_extract, List.extract_eq_take_drop]
  rw [List.take_of_length_le (by rw [List.length_drop]; omega)]

theorem ref_j1 (s d : ByteArray) (hs : 0 < s.size) (hd : d.size ≤ 140737488351232) (hb : d.data.toList = body s.data.toList) (k : Nat) (hk : 2 * d.size + 20 ≤ k) :
    elenchusref1_Parse.j1 k s d = some (parseS s.data.toList) := by
  have hl : d.data.toList.length = d.size := by cases d; rfl
  obtain ⟨k, rfl⟩ : ∃ q, k = q + 2 := ⟨k - 2, by omega⟩
  have hf : formB s.data.toList = (!d.data.toList.isEmpty && !(d.data.toList.head? == some 48 && s.data.toList != [48]) && d.data.toList.all isDig) := by rw [hb]; rfl
  simp only [elenchusref1_Parse.j1, elenchusref1_Parse.j2]
  by_cases h0 : d.toList = []
  · rw [if_pos h0]
    rw [ByteArray.toList_eq] at h0
    have hf2 : formB s.data.toList = false := by rw [hf, h0]; rfl
    unfold parseS
    rw [hf2]; rfl
  · rw [if_neg h0]
    rw [ByteArray.toList_eq] at h0
    have hpos : 0 < d.size := by
      rcases Nat.eq_zero_or_pos d.size with h | h
      · exact absurd (List.eq_nil_of_length_eq_zero (by omega)) h0
      · exact h
    obtain ⟨c, hc, hbt⟩ := drop_cons d 0 hpos
    rw [List.drop_zero] at hc
    have hbt' : bt d 0 = (c.toNat : Int) := hbt
    have he : d.data.toList.isEmpty = false := by rw [hc]; rfl
    have hh : d.data.toList.head? = some c := by rw [hc]; rfl
    have main : ((c.toNat : Int) = 48 → s.data.toList = [48]) → elenchusref1_Parse.l0 k s d (d.size : Int) 0 = some (parseS s.data.toList) := by
      intro hlead
      have hf2 : formB s.data.toList = d.data.toList.all isDig := by
        rw [hf, he, hh]
        by_cases h48 : c = 48
        · rw [hlead (by rw [h48]; rfl)]; simp [h48]
        · simp [h48]
      by_cases hall : d.data.toList.all isDig = true
      · have hp := parseS_val _ (hf2.trans hall)
        have hv19 : val 0 d.data.toList < 1 * 10 ^ d.size := by have := val_upper d.data.toList 0 hall; rw [hl] at this; simpa using this
        have hr : ∀ q, d.size + 2 ≤ q → (if (d.size : Int) > 19 then some (0, 6) else elenchusref1_Parse.l1 q s d 0 (d.size : Int) 0) = some (parseS s.data.toList) := by
          intro q hq
          rw [hp, ← hb]
          by_cases h19 : (d.size : Int) > 19
          · rw [if_pos h19]
            have hlow : 1 * 10 ^ (d.data.toList.drop 1).length ≤ val (0 * 10 + (c.toNat - 48)) (d.data.toList.drop 1) := by
              refine Nat.le_trans (Nat.mul_le_mul_right _ ?_) (val_lower _ _)
              have hdg : isDig c = true := by rw [hc] at hall; simp only [List.all_cons, Bool.and_eq_true] at hall; exact hall.1
              have h1 := dig_num c hdg
              have h2 : c.toNat ≠ 48 := by
                intro h48
                have h3 := hlead (by omega)
                have h4 : s.data.toList.length = 1 := by rw [h3]; rfl
                have h5 : (body s.data.toList).length ≤ 1 := by rw [h3]; decide
                rw [← hb, hl] at h5
                omega
              omega
            have hvv : val 0 d.data.toList = val (0 * 10 + (c.toNat - 48)) (d.data.toList.drop 1) := by rw [hc, val_cons]; rfl
            rw [← hvv, List.length_drop, hl] at hlow
            have hpow : 10 ^ 19 ≤ 10 ^ (d.size - 1) := Nat.pow_le_pow_right (by omega) (by omega)
            have e19 : (10 : Nat) ^ 19 = 10000000000000000000 := by decide
            have hbig : 10000000000000000000 ≤ val 0 d.data.toList := by omega
            split
            · rw [if_neg (by omega)]
            · rw [if_neg (by omega)]
          · rw [if_neg h19]
            have hpow : 10 ^ d.size ≤ 10 ^ 19 := Nat.pow_le_pow_right (by omega) (by omega)
            have e19 : (10 : Nat) ^ 19 = 10000000000000000000 := by decide
            have := ref_l1 s d hs hd d.size 0 0 q (by omega) (by omega) (by omega) (by rw [List.drop_zero]; exact hall) (by rw [List.drop_zero]; omega)
            rw [List.drop_zero] at this
            exact this
        have := ref_l0 s d hd _ _ hr d.size 0 k (by omega) (by omega) (by omega)
        rw [List.drop_zero, if_pos hall] at this
        exact this
      · have hp : parseS s.data.toList = (0, 2) := by
          unfold parseS; rw [hf2]; simp [hall]
        rw [hp]
        have hall2 : d.data.toList.all isDig = false := by simpa using hall
        exact ref_l0_bad s d hd d.size 0 k (by omega) (by omega) (by omega) (by rw [List.drop_zero]; exact hall2)
    rw [if_pos (by omega), hbt']
    by_cases h48 : (c.toNat : Int) = 48
    · rw [if_pos h48, ByteArray.toList_eq]
      by_cases hs48 : s.data.toList = [48]
      · have e : (s.data.toList != [48]) = false := by rw [hs48]; rfl
        rw [e]
        exact main (fun _ => hs48)
      · have e : (s.data.toList != [48]) = true := by simpa using hs48
        rw [e]
        have hf2 : formB s.data.toList = false := by
          rw [hf, he, hh, e, show c = 48 from UInt8.toNat_inj.1 (show c.toNat = 48 by omega)]; rfl
        unfold parseS
        rw [hf2]; rfl
    · rw [if_neg h48]
      exact main (fun h => absurd h h48)

theorem ref_parse (s : ByteArray) (hs : s.size ≤ 140737488351232) : ∃ k, elenchusref1_Parse.f k s = some (parseS s.data.toList) := by
  have hl : s.data.toList.length = s.size := by cases s; rfl
  refine ⟨2 * s.size + 22, ?_⟩
  unfold elenchusref1_Parse.f
  by_cases h0 : s.size = 0
  · rw [if_neg (by omega)]
    have e : s.data.toList = [] := List.eq_nil_of_length_eq_zero (by omega)
    have e2 : s.toList = [] := by rw [ByteArray.toList_eq]; exact e
    simp only [elenchusref1_Parse.j0, elenchusref1_Parse.j1, elenchusref1_Parse.j2, Bool.false_eq_true, if_false]
    rw [if_pos e2, e]
    rfl
  · rw [if_pos (by omega), if_pos (by omega)]
    obtain ⟨c, hc, hbt⟩ := drop_cons s 0 (by omega)
    rw [List.drop_zero] at hc
    have hbt' : bt s 0 = (c.toNat : Int) := hbt
    rw [hbt']
    simp only [elenchusref1_Parse.j0]
    have hbody := body_cons c (s.data.toList.drop 1)
    rw [← show s.data.toList = c :: s.data.toList.drop 1 from hc] at hbody
    by_cases h45 : (c.toNat : Int) = 45
    · rw [if_pos (by simpa using h45), if_pos (by omega)]
      have e1 := extract_one s
      have e2 : (s.extract 1 s.size).size = s.size - 1 := by simp
      refine ref_j1 s _ (by omega) (by omega) ?_ _ (by omega)
      rw [e1, hbody, if_pos (by omega)]
    · rw [if_neg (by simpa using h45)]
      refine ref_j1 s s (by omega) hs ?_ _ (by omega)
      rw [hbody, if_neg (by omega)]
end Go.Proofs.YtbkojghbgoejcaaDoor.Form
