/- Proved: x.digits(), x.quoted() of a scanner, as tokens taken. Conditions: the text's length, how many tokens there are; strconv.ErrRange is laid below. -/
import Derived.Test.YtenpnejkgopghaaDoorSc5
set_option linter.unusedVariables false
set_option linter.unusedSectionVars false
set_option linter.unusedSimpArgs false
namespace Go.Proofs.YtenpnejkgopghaaDoor.Tok
open Go Go.RowKit Go.Proofs.YtenpnejkgopghaaDoor.AK Go.Proofs.YtenpnejkgopghaaDoor.Form Go.Proofs.YtenpnejkgopghaaDoor.ParseC
variable [Gnd]
/-- What a taken token does to a scanner. -/
def TookP (x : Took) (g : Nat) (s : ByteArray) (i : Nat) (ts : List T) (v : Value) (u : Value) (S1 : MSt) : Prop := match x with
  | .bad e => u = .int .i64 e ∧ S1 = Sc g s i ts (.st v)
  | .tok j t => u = .int .i64 0 ∧ ∃ v0, S1 = Sc g s j (ts ++ [t]) (.st v0)
theorem digits_does {B g i : Nat} {s : ByteArray} {ts : List T} {v : Value} (hgn : GndOk) (hi : i ≤ s.size) (hs : s.size ≤ 1000000) (hts : ts.length ≤ 900000) (hv : rawOne v = true) :
    Does Tryd.prog 41 [.pointer (some ⟨g, 0, none⟩)] B (Sc g s i ts (.st v)) (TookP (digTo s i (runTo isWordy s i) ts) g s i ts v) := by
  by_cases q0 : ((((runTo isWordy s i) - i) : Nat) : Int) < (2 : Int)
  · by_cases q1 : ((s.extract i (runTo isWordy s i)) == (⟨#[57, 50, 50, 51, 51, 55, 50, 48, 51, 54, 56, 53, 52, 55, 55, 53, 56, 48, 56]⟩ : ByteArray)) = true
    · by_cases q2 : behindP ts i = true
      · exact (((((digits hgn hi hs hts hv).1 q0).1 q1).1 q2)).mono fun u S1 h => by rw [digTo, if_neg (show ¬ (i + 1 < runTo isWordy s i ∧ (at8 s i).toNat = 48 ∧ (at8 s (i + 1)).toNat = 99) by omega), if_pos (show (s.extract i (runTo isWordy s i) == leastB) = true ∧ behindP ts i = true from ⟨q1, q2⟩)]; exact h
      · by_cases q3 : (parseS (bs (s.extract i (runTo isWordy s i)))).2 = (0 : Int)
        · exact ((((((digits hgn hi hs hts hv).1 q0).1 q1).2 q2).1 q3)).mono fun u S1 h => by rw [digTo, if_neg (show ¬ (i + 1 < runTo isWordy s i ∧ (at8 s i).toNat = 48 ∧ (at8 s (i + 1)).toNat = 99) by omega), if_neg (show ¬ ((s.extract i (runTo isWordy s i) == leastB) = true ∧ behindP ts i = true) from fun h => q2 h.2), if_pos q3]; exact h
        · exact ((((((digits hgn hi hs hts hv).1 q0).1 q1).2 q2).2 q3)).mono fun u S1 h => by rw [digTo, if_neg (show ¬ (i + 1 < runTo isWordy s i ∧ (at8 s i).toNat = 48 ∧ (at8 s (i + 1)).toNat = 99) by omega), if_neg (show ¬ ((s.extract i (runTo isWordy s i) == leastB) = true ∧ behindP ts i = true) from fun h => q2 h.2), if_neg q3]; exact h
    · by_cases q2 : (parseS (bs (s.extract i (runTo isWordy s i)))).2 = (0 : Int)
      · exact (((((digits hgn hi hs hts hv).1 q0).2 q1).1 q2)).mono fun u S1 h => by rw [digTo, if_neg (show ¬ (i + 1 < runTo isWordy s i ∧ (at8 s i).toNat = 48 ∧ (at8 s (i + 1)).toNat = 99) by omega), if_neg (show ¬ ((s.extract i (runTo isWordy s i) == leastB) = true ∧ behindP ts i = true) from fun h => q1 h.1), if_pos q2]; exact h
      · exact (((((digits hgn hi hs hts hv).1 q0).2 q1).2 q2)).mono fun u S1 h => by rw [digTo, if_neg (show ¬ (i + 1 < runTo isWordy s i ∧ (at8 s i).toNat = 48 ∧ (at8 s (i + 1)).toNat = 99) by omega), if_neg (show ¬ ((s.extract i (runTo isWordy s i) == leastB) = true ∧ behindP ts i = true) from fun h => q1 h.1), if_neg q2]; exact h
  · by_cases q1 : (((at8 s i) : UInt8).toNat : Int) = (48 : Int)
    · by_cases q2 : (((at8 s (i + 1)) : UInt8).toNat : Int) = (99 : Int)
      · by_cases q3 : (parseC (bs (s.extract i (runTo isWordy s i)))).2.2 = (0 : Int)
        · exact ((((((digits hgn hi hs hts hv).2 q0).1 q1).1 q2).1 q3)).mono fun u S1 h => by rw [digTo, if_pos (show i + 1 < runTo isWordy s i ∧ (at8 s i).toNat = 48 ∧ (at8 s (i + 1)).toNat = 99 from ⟨by omega, by omega, by omega⟩), if_pos q3]; exact h
        · exact ((((((digits hgn hi hs hts hv).2 q0).1 q1).1 q2).2 q3)).mono fun u S1 h => by rw [digTo, if_pos (show i + 1 < runTo isWordy s i ∧ (at8 s i).toNat = 48 ∧ (at8 s (i + 1)).toNat = 99 from ⟨by omega, by omega, by omega⟩), if_neg q3]; exact h
      · by_cases q3 : ((s.extract i (runTo isWordy s i)) == (⟨#[57, 50, 50, 51, 51, 55, 50, 48, 51, 54, 56, 53, 52, 55, 55, 53, 56, 48, 56]⟩ : ByteArray)) = true
        · by_cases q4 : behindP ts i = true
          · exact (((((((digits hgn hi hs hts hv).2 q0).1 q1).2 q2).1 q3).1 q4)).mono fun u S1 h => by rw [digTo, if_neg (show ¬ (i + 1 < runTo isWordy s i ∧ (at8 s i).toNat = 48 ∧ (at8 s (i + 1)).toNat = 99) by omega), if_pos (show (s.extract i (runTo isWordy s i) == leastB) = true ∧ behindP ts i = true from ⟨q3, q4⟩)]; exact h
          · by_cases q5 : (parseS (bs (s.extract i (runTo isWordy s i)))).2 = (0 : Int)
            · exact ((((((((digits hgn hi hs hts hv).2 q0).1 q1).2 q2).1 q3).2 q4).1 q5)).mono fun u S1 h => by rw [digTo, if_neg (show ¬ (i + 1 < runTo isWordy s i ∧ (at8 s i).toNat = 48 ∧ (at8 s (i + 1)).toNat = 99) by omega), if_neg (show ¬ ((s.extract i (runTo isWordy s i) == leastB) = true ∧ behindP ts i = true) from fun h => q4 h.2), if_pos q5]; exact h
            · exact ((((((((digits hgn hi hs hts hv).2 q0).1 q1).2 q2).1 q3).2 q4).2 q5)).mono fun u S1 h => by rw [digTo, if_neg (show ¬ (i + 1 < runTo isWordy s i ∧ (at8 s i).toNat = 48 ∧ (at8 s (i + 1)).toNat = 99) by omega), if_neg (show ¬ ((s.extract i (runTo isWordy s i) == leastB) = true ∧ behindP ts i = true) from fun h => q4 h.2), if_neg q5]; exact h
        · by_cases q4 : (parseS (bs (s.extract i (runTo isWordy s i)))).2 = (0 : Int)
          · exact (((((((digits hgn hi hs hts hv).2 q0).1 q1).2 q2).2 q3).1 q4)).mono fun u S1 h => by rw [digTo, if_neg (show ¬ (i + 1 < runTo isWordy s i ∧ (at8 s i).toNat = 48 ∧ (at8 s (i + 1)).toNat = 99) by omega), if_neg (show ¬ ((s.extract i (runTo isWordy s i) == leastB) = true ∧ behindP ts i = true) from fun h => q3 h.1), if_pos q4]; exact h
          · exact (((((((digits hgn hi hs hts hv).2 q0).1 q1).2 q2).2 q3).2 q4)).mono fun u S1 h => by rw [digTo, if_neg (show ¬ (i + 1 < runTo isWordy s i ∧ (at8 s i).toNat = 48 ∧ (at8 s (i + 1)).toNat = 99) by omega), if_neg (show ¬ ((s.extract i (runTo isWordy s i) == leastB) = true ∧ behindP ts i = true) from fun h => q3 h.1), if_neg q4]; exact h
    · by_cases q2 : ((s.extract i (runTo isWordy s i)) == (⟨#[57, 50, 50, 51, 51, 55, 50, 48, 51, 54, 56, 53, 52, 55, 55, 53, 56, 48, 56]⟩ : ByteArray)) = true
      · by_cases q3 : behindP ts i = true
        · exact ((((((digits hgn hi hs hts hv).2 q0).2 q1).1 q2).1 q3)).mono fun u S1 h => by rw [digTo, if_neg (show ¬ (i + 1 < runTo isWordy s i ∧ (at8 s i).toNat = 48 ∧ (at8 s (i + 1)).toNat = 99) by omega), if_pos (show (s.extract i (runTo isWordy s i) == leastB) = true ∧ behindP ts i = true from ⟨q2, q3⟩)]; exact h
        · by_cases q4 : (parseS (bs (s.extract i (runTo isWordy s i)))).2 = (0 : Int)
          · exact (((((((digits hgn hi hs hts hv).2 q0).2 q1).1 q2).2 q3).1 q4)).mono fun u S1 h => by rw [digTo, if_neg (show ¬ (i + 1 < runTo isWordy s i ∧ (at8 s i).toNat = 48 ∧ (at8 s (i + 1)).toNat = 99) by omega), if_neg (show ¬ ((s.extract i (runTo isWordy s i) == leastB) = true ∧ behindP ts i = true) from fun h => q3 h.2), if_pos q4]; exact h
          · exact (((((((digits hgn hi hs hts hv).2 q0).2 q1).1 q2).2 q3).2 q4)).mono fun u S1 h => by rw [digTo, if_neg (show ¬ (i + 1 < runTo isWordy s i ∧ (at8 s i).toNat = 48 ∧ (at8 s (i + 1)).toNat = 99) by omega), if_neg (show ¬ ((s.extract i (runTo isWordy s i) == leastB) = true ∧ behindP ts i = true) from fun h => q3 h.2), if_neg q4]; exact h
      · by_cases q3 : (parseS (bs (s.extract i (runTo isWordy s i)))).2 = (0 : Int)
        · exact ((((((digits hgn hi hs hts hv).2 q0).2 q1).2 q2).1 q3)).mono fun u S1 h => by rw [digTo, if_neg (show ¬ (i + 1 < runTo isWordy s i ∧ (at8 s i).toNat = 48 ∧ (at8 s (i + 1)).toNat = 99) by omega), if_neg (show ¬ ((s.extract i (runTo isWordy s i) == leastB) = true ∧ behindP ts i = true) from fun h => q2 h.1), if_pos q3]; exact h
        · exact ((((((digits hgn hi hs hts hv).2 q0).2 q1).2 q2).2 q3)).mono fun u S1 h => by rw [digTo, if_neg (show ¬ (i + 1 < runTo isWordy s i ∧ (at8 s i).toNat = 48 ∧ (at8 s (i + 1)).toNat = 99) by omega), if_neg (show ¬ ((s.extract i (runTo isWordy s i) == leastB) = true ∧ behindP ts i = true) from fun h => q2 h.1), if_neg q3]; exact h
/-- A quoted name, as a token taken. -/
def quoTook (s : ByteArray) (i : Nat) : Took := match quoTo s (i + 1) ⟨#[]⟩ with | none => .bad 2 | some (j, b) => nameTo 2 b i (j + 1)
theorem quoted_took {B g i : Nat} {s : ByteArray} {ts : List T} {v : Value} (hi : i < s.size) (hs : s.size ≤ 800000) (hts : ts.length ≤ 900000) :
    Does Tryd.prog 42 [.pointer (some ⟨g, 0, none⟩)] B (Sc g s i ts (.st v)) (TookP (quoTook s i) g s i ts v) := by
  refine (quoted_does hi hs hts).mono fun u S1 h => ?_
  unfold quoTook
  cases e : quoTo s (i + 1) ⟨#[]⟩ with
  | none => rw [e] at h; exact h
  | some p =>
    obtain ⟨j, b⟩ := p
    rw [e] at h
    show TookP (nameTo 2 b i (j + 1)) g s i ts v u S1
    unfold nameTo
    have h : if 200 < b.size then u = .int .i64 3 ∧ S1 = Sc g s i ts (.st v) else u = .int .i64 0 ∧ ∃ v0, S1 = Sc g s (j + 1) (ts ++ [⟨2, b, 0, 0, 0, ((i : Nat) : Int)⟩]) (.st v0) := h
    by_cases hb : 200 < b.size
    · rw [if_pos hb] at h ⊢; exact h
    · rw [if_neg hb] at h ⊢; exact h
theorem named_took {B g i n : Nat} {s : ByteArray} {ts : List T} {v : Value} {kd : Int} {tx : ByteArray} (hin : i + n ≤ 2000000) (hts : ts.length ≤ 900000) (hv : rawOne v = true) :
    Does Tryd.prog 38 [.pointer (some ⟨g, 0, none⟩), .int .i64 kd, .string tx, .int .i64 ((n : Nat) : Int)] B (Sc g s i ts (.st v)) (TookP (nameTo kd tx i (i + n)) g s i ts v) := by
  unfold nameTo
  by_cases hb : 200 < tx.size
  · rw [if_pos hb]
    exact ((named hin hts hv).1 (by omega))
  · rw [if_neg hb]
    exact ((named hin hts hv).2 (by omega))
/-- Of a token that is taken: is it bad, what is wrong, the place behind, the token. -/
def Took.isBad : Took → Bool
  | .bad _ => true
  | .tok .. => false
def Took.err : Took → Int
  | .bad e => e
  | .tok .. => 0
def Took.next : Took → Nat
  | .bad _ => 0
  | .tok j _ => j
def Took.it : Took → T
  | .bad _ => ⟨0, ⟨#[]⟩, 0, 0, 0, 0⟩
  | .tok _ t => t
theorem Took.of_bad {x : Took} (h : x.isBad = true) : x = .bad x.err := by cases x <;> first | rfl | cases h
theorem Took.of_tok {x : Took} (h : ¬ x.isBad = true) : x = .tok x.next x.it := by cases x <;> first | rfl | exact absurd rfl h
theorem peek_does {B g i : Nat} {s : ByteArray} {ts : List T} {v : Value} (hi : i < s.size) (hs : s.size ≤ 1000000) (hv : rawOne v = true) :
    Does Tryd.prog 35 [.pointer (some ⟨g, 0, none⟩), .int .i64 0] B (Sc g s i ts (.st v)) fun u S1 => u = .int .u8 ((at8 s i).toNat : Int) ∧ S1 = Sc g s i ts (.st v) :=
  ((peek (by omega) hs hv).1 (by omega))
theorem ends_does {B g i : Nat} {s : ByteArray} {ts : List T} {v : Value} (hi : i < s.size) (hs : s.size ≤ 1000000) (hv : rawOne v = true) :
    Does Tryd.prog 46 [.pointer (some ⟨g, 0, none⟩)] B (Sc g s i ts (.st v)) fun u S1 => u = .bool (endsP s i) ∧ S1 = Sc g s i ts (.st v) := by
  unfold endsP
  by_cases h0 : (((i + 1) : Nat) : Int) = ((s.size : Nat) : Int)
  · rw [decide_eq_true (show i + 1 = s.size by omega)]
    exact ((ends hi hs hv).1 h0)
  · rw [decide_eq_false (show ¬ i + 1 = s.size by omega)]
    by_cases h1 : isWhite (at8 s (i + 1)) = true
    · rw [h1]; exact (((ends hi hs hv).2 h0).1 h1)
    · rw [Bool.eq_false_iff.2 h1]
      by_cases h2 : ((at8 s (i + 1)).toNat : Int) = (37 : Int)
      · rw [decide_eq_true (show (at8 s (i + 1)).toNat = 37 by omega)]; exact ((((ends hi hs hv).2 h0).2 h1).1 h2)
      · rw [decide_eq_false (show ¬ (at8 s (i + 1)).toNat = 37 by omega)]; exact ((((ends hi hs hv).2 h0).2 h1).2 h2)
/-- A byte below 128 as a text. -/
theorem rule_ascii [Env] {P : Program} {x r : AV} {c : UInt8} {src dst : TypeId} (hs : P.underlying src = some (.int .u8)) (hd : P.underlying dst = some .string) (hx : Is x (.int .u8 (c.toNat : Int))) (hr : Is r (.string ⟨#[c]⟩)) (hc : c.toNat ≤ 127) : RuleOk P ⟨.conv src dst, [x], none, none, r⟩ :=
  rule1 hx hr rfl (fun _ _ h => by cases h) fun w => by
    have e := encode_ascii c.toNat hc
    rw [UInt8.ofNat_toNat] at e
    simp only [SOp.sem, convert, Sem.run_bind, underlying_run hd, underlying_run hs, Result.andThen, Conv.intToString, Sem.run_pure, e]
theorem punct_ascii {c : UInt8} (h : isPunct c = true) : c.toNat ≤ 127 := by
  unfold isPunct at h
  simp only [List.contains_cons, List.contains_nil, Bool.or_false, Bool.or_eq_true, beq_iff_eq] at h
  rcases h with h | h | h | h | h | h <;> (rw [h]; decide)
theorem took_bad {x : Took} {g : Nat} {s : ByteArray} {i : Nat} {ts : List T} {v : Value} {u : Value} {S1 : MSt} (h : x.isBad = true) (hp : TookP x g s i ts v u S1) : u = .int .i64 x.err ∧ S1 = Sc g s i ts (.st v) := by
  rw [Took.of_bad h] at hp; exact hp
theorem took_tok {x : Took} {g : Nat} {s : ByteArray} {i : Nat} {ts : List T} {v : Value} {u : Value} {S1 : MSt} (h : ¬ x.isBad = true) (hp : TookP x g s i ts v u S1) : u = .int .i64 0 ∧ ∃ v0, S1 = Sc g s x.next (ts ++ [x.it]) (.st v0) := by
  rw [Took.of_tok h] at hp; exact hp
end Go.Proofs.YtenpnejkgopghaaDoor.Tok
