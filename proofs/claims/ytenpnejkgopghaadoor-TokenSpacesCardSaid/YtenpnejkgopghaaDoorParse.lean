/- Proved: number.Parse is the number of a decimal, or what is wrong with the text. Conditions: the text is no longer than the reach; strconv.ErrRange holds an interface value. -/
import Derived.Test.YtenpnejkgopghaaDoorForm
set_option linter.unusedVariables false
set_option linter.unusedSectionVars false
set_option linter.unusedSimpArgs false
namespace Go.Proofs.YtenpnejkgopghaaDoor.Form
open Go Go.RowKit

theorem bytes_below_ {B : Nat} {w W : World} (h : Below B w W) (hB : B ≤ W.heap.size) (e : TypeId) (s : ByteArray) : Below B w (Lib.bytesWorld W e s) :=
  ⟨h.os, h.tape, h.output, by rw [Lib.bytesWorld_size]; have := h.size; omega, fun i hi => (Lib.bytesWorld_at_old W e s i (by omega)).trans (h.block i hi)⟩
theorem dig_num (c : UInt8) (h : isDig c = true) : 48 ≤ c.toNat ∧ c.toNat ≤ 57 := by
  unfold isDig at h; simpa using h

/-- A number, or one that is out of range. -/
def sound {α : Type} : Lib.NumEnd α → Bool
  | .ok _ => true
  | .range => true
  | _ => false

theorem uint_sound (M : Nat) : ∀ (l : List UInt8) (acc : Nat), l.all isDig = true → sound (Lib.parseUintM M acc l) = true
  | [], acc, _ => by unfold Lib.parseUintM; rfl
  | c :: r, acc, h => by
    simp only [List.all_cons, Bool.and_eq_true] at h
    have hd := dig_num c h.1
    unfold Lib.parseUintM
    rw [if_pos hd]
    split
    · rfl
    · split
      · rfl
      · exact uint_sound M r _ h.2

/-- What Parse takes of a text behind its sign. -/
theorem body_cons (c : UInt8) (r : List UInt8) : body (c :: r) = if c.toNat = 45 then r else c :: r := by
  unfold body Lib.trimPrefix Lib.hasPrefix
  have e : ([45] : List UInt8).isPrefixOf (c :: r) = (c.toNat == 45) := by
    rw [Bool.eq_iff_iff]
    simp only [List.isPrefixOf, Bool.and_true, beq_iff_eq]
    constructor
    · intro h; rw [← h]; rfl
    · intro h; exact (UInt8.toNat_inj.1 (by rw [h]; rfl)).symm
  rw [e]
  by_cases h : c.toNat = 45
  · rw [if_pos h]; simp [h]
  · rw [if_neg h]; simp [h]

theorem form_body (l : List UInt8) (h : formB l = true) : (body l).all isDig = true ∧ body l ≠ [] := by
  unfold formB at h
  simp only [Bool.and_eq_true, Bool.not_eq_true', List.isEmpty_eq_false_iff] at h
  exact ⟨h.2, h.1.1⟩
theorem form_uint (l : List UInt8) (h : formB l = true) : sound (Lib.parseUintB 64 (body l)) = true := by
  have h2 := form_body l h
  unfold Lib.parseUintB
  rw [if_neg h2.2]
  exact uint_sound _ _ _ h2.1

theorem form_cons (c : UInt8) (r : List UInt8) (h : formB (c :: r) = true) : (if c.toNat = 43 ∨ c.toNat = 45 then r else c :: r) = body (c :: r) := by
  have hb := body_cons c r
  rw [hb]
  by_cases h45 : c.toNat = 45
  · rw [if_pos (.inr h45), if_pos h45]
  · rw [if_neg h45]
    by_cases h43 : c.toNat = 43
    · exfalso
      unfold formB at h
      rw [hb, if_neg h45] at h
      have : isDig c = false := by unfold isDig; simp [h43]
      simp [this] at h
    · rw [if_neg (by simp [h43, h45])]
theorem head_45 (c : UInt8) (r : List UInt8) : (c.toNat = 45) = ((c :: r).head? = some 45) := by
  simp only [List.head?_cons, Option.some.injEq, eq_iff_iff]
  constructor
  · intro h; exact UInt8.toNat_inj.1 (by rw [h]; rfl)
  · intro h; rw [h]; rfl

/-- A decimal's number, as ParseInt reads it: out of range with its digits, .. -/
theorem int_range (l : List UInt8) (h : formB l = true) (hu : Lib.parseUintB 64 (body l) = .range) : Lib.parseIntB 64 l = .range := by
  cases l with
  | nil => cases h
  | cons c r =>
    unfold Lib.parseIntB
    simp only [form_cons c r h, hu]
/-- .. or by its sign. -/
theorem int_ok (l : List UInt8) (h : formB l = true) (u : Nat) (hu : Lib.parseUintB 64 (body l) = .ok u) :
    Lib.parseIntB 64 l = if ¬ (l.head? = some 45) ∧ 2 ^ 63 ≤ u then .range else if l.head? = some 45 ∧ 2 ^ 63 < u then .range else .ok (if l.head? = some 45 then -(u : Int) else u) := by
  cases l with
  | nil => cases h
  | cons c r =>
    unfold Lib.parseIntB
    simp only [form_cons c r h, hu]
    simp only [head_45 c r]
theorem sound_cases {α : Type} {x : Lib.NumEnd α} (h : sound x = true) : x = .range ∨ ∃ u, x = .ok u := by
  cases x
  · exact .inr ⟨_, rfl⟩
  · cases h
  · exact .inl rfl

theorem form_int (l : List UInt8) (h : formB l = true) : sound (Lib.parseIntB 64 l) = true := by
  rcases sound_cases (form_uint l h) with hu | ⟨u, hu⟩
  · rw [int_range l h hu]; rfl
  · rw [int_ok l h u hu]; (repeat' split) <;> rfl


set_option maxHeartbeats 1600000 in
theorem parse_any (s : ByteArray) (hs : s.size ≤ 140737488351232) (tp : TypeId) (p : Value) (w : World) (hR : w.var? Tryd.prog "strconv.ErrRange" = some #[.iface tp p]) :
    Calls Tryd.prog 63 #[.string s] w fun e w' => e = .returned (.tuple #[.int .i64 (parseS s.data.toList).1, .int .i64 (parseS s.data.toList).2]) ∧ Below w.heap.size w w' := by
  have HR := Lib.hid hR
  clear hR
  obtain ⟨pr, hpr⟩ : ∃ pr, pr = parseS s.data.toList := ⟨_, rfl⟩
  rw [← hpr]
  unfold parseS at hpr
  cases hf : formB s.data.toList with
  | false =>
    rw [hf] at hpr
    subst hpr
    have HF := Lib.hid hf
    clear hf
    go_enter Tryd.func63, Tryd.ntmps63
    go_wp2_with (first | (go_at_call 79; (with_reducible refine (form_any _ hs _).mono ?_); rw [HF.out]; rintro e w' ⟨rfl, rfl⟩))
    go_ret2
    exact ⟨rfl, Below.refl _ _⟩
  | true =>
    have hn := form_int _ hf
    rw [hf] at hpr
    have HF := Lib.hid hf
    clear hf
    rcases sound_cases hn with hv | ⟨v, hv⟩
    · rw [hv] at hpr
      subst hpr
      have HV := Lib.hid hv
      clear hv hn
      go_enter Tryd.func63, Tryd.ntmps63
      go_wp2_with (first | (go_at_call 79; (with_reducible refine (form_any _ hs _).mono ?_); rw [HF.out]; rintro e w' ⟨rfl, rfl⟩) | (go_at_call 80; (with_reducible refine (Tryd.strconv_ParseInt_10_at64_range_var _ (by omega) HV.out tp p _ HR.out).mono ?_); rintro e w' ⟨N, rfl, hN, hc, hb⟩; have HB := Lib.hid hb; clear hb hN hc))
      go_ret2
      exact ⟨rfl, HB.out⟩
    · rw [hv] at hpr
      subst hpr
      have HV := Lib.hid hv
      clear hv hn
      go_enter Tryd.func63, Tryd.ntmps63
      go_wp2_with (first | (go_at_call 79; (with_reducible refine (form_any _ hs _).mono ?_); rw [HF.out]; rintro e w' ⟨rfl, rfl⟩) | (go_at_call 80; (with_reducible refine (Tryd.strconv_ParseInt_10_at64_ok _ (by omega) v HV.out _).mono ?_); rintro e w' ⟨rfl, hb⟩; have HB := Lib.hid hb; clear hb))
      go_ret2
      refine ⟨rfl, ?_⟩
      rcases HB.out with rfl | ⟨t, rfl⟩
      · exact Below.refl _ _
      · exact bytes_below_ (Below.refl _ _) (Nat.le_refl _) _ _
end Go.Proofs.YtenpnejkgopghaaDoor.Form
