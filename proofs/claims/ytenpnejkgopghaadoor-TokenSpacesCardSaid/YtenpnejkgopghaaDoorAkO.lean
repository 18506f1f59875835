/- Proved: Numbers, equality, keys, maps, rows, append: the interpreter is sound. Conditions: none. -/
import Derived.Test.YtenpnejkgopghaaDoorAkR
set_option maxRecDepth 100000
set_option linter.unusedVariables false
set_option linter.unusedSimpArgs false
set_option linter.unusedSectionVars false
namespace Go.Proofs.YtenpnejkgopghaaDoor.AK
open Go
noncomputable section
variable [Env]
/-! ### Operations: what is asked -/
section
variable {P : Program} {w : World} {β : Type}
theorem underlying_run {t : TypeId} {d : TypeDesc} (h : P.underlying t = some d) : (underlying t).run P w = .ok d w := by
  simp only [underlying, program, Sem.run_bind, Sem.run, Result.andThen, h]; rfl
theorem typeInfo_run {t : TypeId} {i : TypeInfo} (h : P.info? t = some i) : (typeInfo t).run P w = .ok i w := by
  simp only [typeInfo, program, Sem.run_bind, Sem.run, Result.andThen, h]; rfl
theorem info_of_underlying {t : TypeId} {d : TypeDesc} (h : P.underlying t = some d) : ∃ i, P.info? t = some i := by
  unfold Program.underlying at h
  split at h
  · rename_i hh; exact ⟨_, hh⟩
  · rename_i hh; exact ⟨_, hh⟩
  · cases h
theorem sizeOf_run {t : TypeId} {i : TypeInfo} (h : P.info? t = some i) : (Go.sizeOf t).run P w = .ok i.size w := by
  simp only [Go.sizeOf, Sem.run_bind, typeInfo_run h, Result.andThen]; rfl
theorem zeroValue_run {t : TypeId} {i : TypeInfo} {z : Value} (h : P.info? t = some i) (hz : i.zero = some z) : (zeroValue t).run P w = .ok z w := by
  simp only [zeroValue, Sem.run_bind, typeInfo_run h, Result.andThen, hz]; rfl
theorem isAgg_run {t : TypeId} {d : TypeDesc} (h : P.underlying t = some d) : (isAgg t).run P w = .ok (match d with | .struct _ | .array _ _ => true | _ => false) w := by
  simp only [isAgg, Sem.run_bind, underlying_run h, Result.andThen]
  cases d <;> rfl
end
/-- How an operation ends. -/
def Ends (P : Program) (o : Oper) (a : Act) (w : World) (Post : Value → World → Prop) : Prop :=
  ∃ u w1, ((execOp a.eval o).run P w = .ok (.value u) w1 ∨ ((execOp a.eval o).run P w = .ok .skip w1 ∧ u = undef)) ∧ Post u w1
def PostK {β : Type} (ι : Inj) (h : H) (w : World) (k : AV → H → β) (r : β) : Value → World → Prop := fun u w1 => ∃ v h1 ι1, k v h1 = r ∧ Sim ι1 h1 w1 ∧ RV ι1 v u ∧ Grows ι h w ι1 h1 w1
theorem PostK.same {β : Type} {ι : Inj} {h : H} {w : World} {k : AV → H → β} {r : β} {v : AV} {u : Value} (S : Sim ι h w) (hr : k v h = r) (hv : RV ι v u) : PostK ι h w k r u w := ⟨v, h, ι, hr, S, hv, Grows.refl ι h w⟩
theorem Ends.value {P : Program} {o : Oper} {a : Act} {w w1 : World} {Post : Value → World → Prop} {u : Value} (h : (execOp a.eval o).run P w = .ok (.value u) w1) (hp : Post u w1) : Ends P o a w Post := ⟨u, w1, .inl h, hp⟩
theorem Ends.skip {P : Program} {o : Oper} {a : Act} {w w1 : World} {Post : Value → World → Prop} (h : (execOp a.eval o).run P w = .ok .skip w1) (hp : Post undef w1) : Ends P o a w Post := ⟨undef, w1, .inr ⟨h, rfl⟩, hp⟩

/-! ### Numbers -/
theorem fits64_ok {n : Int} (h : fits64 n = true) : -9223372036854775808 ≤ n ∧ n ≤ 9223372036854775807 := by
  cases n with
  | ofNat m => have h2 : m ≤ 9223372036854775807 := Nat.le_of_ble_eq_true h; have h3 : Int.ofNat m = (m : Int) := rfl; constructor <;> omega
  | negSucc m => have h2 : m ≤ 9223372036854775807 := Nat.le_of_ble_eq_true h; constructor <;> omega
theorem wrap64_ok (n : Int) : wrap64A n = IntKind.wrap .i64 n := by
  unfold wrap64A
  cases hf : fits64 n with
  | false => rfl
  | true =>
    obtain ⟨h1, h2⟩ := fits64_ok hf
    show n = _
    show n = if (true && decide (n % 18446744073709551616 ≥ 9223372036854775808)) = true then n % 18446744073709551616 - 18446744073709551616 else n % 18446744073709551616
    by_cases h3 : n % 18446744073709551616 ≥ 9223372036854775808
    · rw [if_pos (by simpa using h3)]; omega
    · rw [if_neg (by simpa using h3)]; omega
theorem wrapC_ok (k : IntKind) (n : Int) : wrapC k n = k.wrap n := by cases k <;> first | rfl | exact wrap64_ok n
theorem ltI_ok (a b : Int) : ltI a b = decide (a < b) := by
  unfold ltI
  have : Int.sub a b = a - b := rfl
  rw [this]
  cases h : a - b with
  | ofNat m => have h3 : Int.ofNat m = (m : Int) := rfl; show false = _; rw [decide_eq_false]; omega
  | negSucc m => show true = _; rw [decide_eq_true]; omega
theorem eqI_ok (a b : Int) : eqI a b = decide (a = b) := by
  unfold eqI
  have : Int.sub a b = a - b := rfl
  rw [this]
  cases h : a - b with
  | ofNat m =>
    show Nat.beq m 0 = _
    cases m with
    | zero => rw [decide_eq_true (by have : a - b = 0 := h; omega)]; rfl
    | succ m => rw [decide_eq_false (by have : a - b = ((m + 1 : Nat) : Int) := h; omega)]; rfl
  | negSucc m => show false = _; rw [decide_eq_false]; omega
theorem kindN_inj {a b : IntKind} (h : kindN a = kindN b) : a = b := by cases a <;> cases b <;> first | rfl | cases h
section
variable {β : Type} {s r : β}
theorem onInts_inv {x y : AV} {f : IntKind → Int → Int → β} (h : onInts x y f s = r) (n : s ≠ r) : ∃ k a b, x = .int k a ∧ y = .int k b ∧ f k a b = r := by
  unfold onInts at h
  obtain ⟨k, a, ex, h2⟩ := AV.onInt_inv h n
  obtain ⟨k', b, ey, h3⟩ := AV.onInt_inv h2 n
  obtain ⟨h1, h4⟩ := eqN_inv h3 n
  have := kindN_inj h1
  subst this
  exact ⟨k, a, b, ex, ey, h4⟩
theorem okB_eq (b : Bool) (k : AV → β) : okB b k = k (.bool b) := by cases b <;> rfl
theorem natOf_inv {x : AV} {k : Nat → β} (h : natOf x k s = r) (n : s ≠ r) : ∃ t m, x = .int t ((m : Nat) : Int) ∧ k m = r := by
  unfold natOf at h
  obtain ⟨t, i, ex, h2⟩ := AV.onInt_inv h n
  obtain ⟨m, ei, h3⟩ := onNat_inv h2 n
  exact ⟨t, m, ei ▸ ex, h3⟩
end
theorem rv_int {ι : Inj} {k : IntKind} {n : Int} {u : Value} (h : RV ι (.int k n) u) : u = .int k n := by cases h; rfl
theorem rv_bool {ι : Inj} {b : Bool} {u : Value} (h : RV ι (.bool b) u) : u = .bool b := by cases h; rfl
theorem rv_str {ι : Inj} {n c : Nat} {u : Value} (h : RV ι (.str n c) u) : ∃ s : ByteArray, u = .string s ∧ n = s.size ∧ c = encS s := by cases h; exact ⟨_, rfl, rfl, rfl⟩
theorem limOf_ok (k : IntKind) (f : Nat → Nat → Nat) (bop : BitVec k.bits → BitVec k.bits → BitVec k.bits) (hop : ∀ x y : BitVec k.bits, (bop x y).toNat = f x.toNat y.toNat) (hb : ∀ (p : Nat) x y, x < 2 ^ p → y < 2 ^ p → f x y < 2 ^ p) {m n : Nat} (hm : m < limOf k) (hn : n < limOf k) :
    (k.wrap (bop (BitVec.ofInt k.bits m) (BitVec.ofInt k.bits n)).toNat) = ((f m n : Nat) : Int) := by
  have hpow : ∃ p, limOf k = 2 ^ p ∧ p ≤ k.bits ∧ (k.signed = true → p + 1 = k.bits) := by cases k <;> first | exact ⟨7, rfl, by decide, by decide⟩ | exact ⟨15, rfl, by decide, by decide⟩ | exact ⟨31, rfl, by decide, by decide⟩ | exact ⟨63, rfl, by decide, by decide⟩ | exact ⟨8, rfl, by decide, by decide⟩ | exact ⟨16, rfl, by decide, by decide⟩ | exact ⟨32, rfl, by decide, by decide⟩ | exact ⟨64, rfl, by decide, by decide⟩
  obtain ⟨p, h1, h2, h3⟩ := hpow
  rw [h1] at hm hn
  have hp : 2 ^ p ≤ 2 ^ k.bits := Nat.pow_le_pow_right (by decide) h2
  have e : ∀ x : Nat, x < 2 ^ p → (BitVec.ofInt k.bits (x : Int)).toNat = x := fun x hx => by
    rw [BitVec.ofInt_natCast, BitVec.toNat_ofNat, Nat.mod_eq_of_lt (by omega)]
  rw [hop, e m hm, e n hn]
  have hf := hb p m n hm hn
  generalize f m n = q at *
  have hpi : ((2 : Int) ^ k.bits) = ((2 ^ k.bits : Nat) : Int) := by simp
  simp only [IntKind.wrap]
  rw [hpi, Int.emod_eq_of_lt (by omega) (by omega)]
  cases hs : k.signed with
  | false => simp
  | true =>
    have h4 := h3 hs
    have hpi2 : ((2 : Int) ^ (k.bits - 1)) = ((2 ^ p : Nat) : Int) := by rw [← h4]; simp
    rw [hpi2]
    have : ¬ (2 ^ p ≤ q) := by omega
    have hpi3 : ((2 : Int) ^ p) = ((2 ^ p : Nat) : Int) := by simp
    simp
    intro hh; rw [hpi3] at hh; exact absurd (Int.ofNat_le.1 hh) this
/-! ### Numbers of which bounds are known -/
section
variable {ι : Inj} {β : Type} {s r : β}
theorem AV.onSym_inv {v : AV} {k : Nat → Int → Int → Int → β} (h : v.onSym k s = r) (n : s ≠ r) : ∃ i d lo hi, v = .sym i d lo hi ∧ k i d lo hi = r := by
  cases v <;> first | exact absurd h n | exact ⟨_, _, _, _, rfl, h⟩
theorem AV.onIntSym_inv {v : AV} {ki : IntKind → Int → β} {k : Nat → Int → Int → Int → β} (h : v.onIntSym ki k s = r) (n : s ≠ r) : (∃ t a, v = .int t a ∧ ki t a = r) ∨ ∃ i d lo hi, v = .sym i d lo hi ∧ k i d lo hi = r := by
  cases v <;> first | exact absurd h n | exact .inl ⟨_, _, rfl, h⟩ | exact .inr ⟨_, _, _, _, rfl, h⟩
theorem symEither_or (x y : AV) (yes no : β) : symEither x y yes no = yes ∨ symEither x y yes no = no := by
  unfold symEither
  cases x <;> first | exact .inl rfl | (cases y <;> first | exact .inl rfl | exact .inr rfl)
theorem kindEq_inv {a b : IntKind} {t e : β} (h : kindEq a b t e = r) (n : e ≠ r) : a = b ∧ t = r := by
  obtain ⟨h1, h2⟩ := eqN_inv h n
  exact ⟨kindN_inj h1, h2⟩
theorem rv_sym {i : Nat} {d lo hi : Int} {u : Value} (h : RV ι (.sym i d lo hi) u) : u = .int .i64 (Env.val i + d) ∧ lo ≤ Env.val i + d ∧ Env.val i + d ≤ hi := by cases h; exact ⟨rfl, by assumption, by assumption⟩
theorem ifB_cases {b : Bool} {t e : β} (h : ifB b t e = r) : (b = true ∧ t = r) ∨ (b = false ∧ e = r) := by cases b <;> first | exact .inl ⟨rfl, h⟩ | exact .inr ⟨rfl, h⟩
theorem ltI_true {a b : Int} (h : ltI a b = true) : a < b := by rw [ltI_ok] at h; exact of_decide_eq_true h
theorem ltI_false {a b : Int} (h : ltI a b = false) : ¬ a < b := by rw [ltI_ok] at h; exact of_decide_eq_false h
theorem eqI_true {a b : Int} (h : eqI a b = true) : a = b := by rw [eqI_ok] at h; exact of_decide_eq_true h
theorem eqI_false {a b : Int} (h : eqI a b = false) : ¬ a = b := by rw [eqI_ok] at h; exact of_decide_eq_false h
theorem ltSS_ok {i j : Nat} {d e lo hi lo' hi' : Int} {t f : β} (h : ltSS i d lo hi j e lo' hi' t f s = r) (n : s ≠ r) (h1 : lo ≤ Env.val i + d) (h2 : Env.val i + d ≤ hi) (h3 : lo' ≤ Env.val j + e) (h4 : Env.val j + e ≤ hi') :
    (Env.val i + d < Env.val j + e ∧ t = r) ∨ (¬ Env.val i + d < Env.val j + e ∧ f = r) := by
  unfold ltSS at h
  rw [eqN_eq] at h
  by_cases hij : i = j
  · rw [if_pos hij] at h
    subst hij
    rcases ifB_cases h with ⟨a, b⟩ | ⟨a, b⟩
    · exact .inl ⟨by have := ltI_true a; omega, b⟩
    · exact .inr ⟨by have := ltI_false a; omega, b⟩
  · rw [if_neg hij] at h
    rcases ifB_cases h with ⟨a, b⟩ | ⟨a, b⟩
    · exact .inl ⟨by have := ltI_true a; omega, b⟩
    · rcases ifB_cases b with ⟨a2, b2⟩ | ⟨a2, b2⟩
      · rw [le_eq] at b2
        by_cases hl : Nat.succ i ≤ j
        · rw [if_pos hl] at b2
          have hm := Env.mono i j hl
          rcases ifB_cases b2 with ⟨a3, b3⟩ | ⟨a3, b3⟩
          · exact absurd b3 n
          · exact .inl ⟨by have := ltI_false a3; omega, b3⟩
        · rw [if_neg hl] at b2
          have hm := Env.mono j i (by omega)
          rcases ifB_cases b2 with ⟨a3, b3⟩ | ⟨a3, b3⟩
          · exact absurd b3 n
          · exact .inr ⟨by have h5 := ltI_false a3; have h6 : Int.add d 1 = d + 1 := rfl; rw [h6] at h5; omega, b3⟩
      · exact .inr ⟨by have := ltI_false a2; omega, b2⟩
theorem eqSS_ok {i j : Nat} {d e lo hi lo' hi' : Int} {t f : β} (h : eqSS i d lo hi j e lo' hi' t f s = r) (n : s ≠ r) (h1 : lo ≤ Env.val i + d) (h2 : Env.val i + d ≤ hi) (h3 : lo' ≤ Env.val j + e) (h4 : Env.val j + e ≤ hi') :
    (Env.val i + d = Env.val j + e ∧ t = r) ∨ (¬ Env.val i + d = Env.val j + e ∧ f = r) := by
  unfold eqSS at h
  rw [eqN_eq] at h
  by_cases hij : i = j
  · rw [if_pos hij] at h
    subst hij
    rcases ifB_cases h with ⟨a, b⟩ | ⟨a, b⟩
    · exact .inl ⟨by have := eqI_true a; omega, b⟩
    · exact .inr ⟨by have := eqI_false a; omega, b⟩
  · rw [if_neg hij] at h
    rcases ifB_cases h with ⟨a, b⟩ | ⟨a, b⟩
    · exact .inr ⟨by have := ltI_true a; omega, b⟩
    · rcases ifB_cases b with ⟨a2, b2⟩ | ⟨a2, b2⟩
      · exact .inr ⟨by have := ltI_true a2; omega, b2⟩
      · rw [le_eq] at b2
        by_cases hl : Nat.succ i ≤ j
        · rw [if_pos hl] at b2
          have hm := Env.mono i j hl
          rcases ifB_cases b2 with ⟨a3, b3⟩ | ⟨a3, b3⟩
          · exact absurd b3 n
          · exact .inr ⟨by have := ltI_false a3; omega, b3⟩
        · rw [if_neg hl] at b2
          have hm := Env.mono j i (by omega)
          rcases ifB_cases b2 with ⟨a3, b3⟩ | ⟨a3, b3⟩
          · exact absurd b3 n
          · exact .inr ⟨by have := ltI_false a3; omega, b3⟩
theorem symLtA_ok {x y : AV} {xv yv : Value} {t f : β} (h : symLtA x y t f s = r) (n : s ≠ r) (hx : RV ι x xv) (hy : RV ι y yv) :
    ∃ a b : Int, xv = .int .i64 a ∧ yv = .int .i64 b ∧ ((a < b ∧ t = r) ∨ (¬ a < b ∧ f = r)) := by
  rcases AV.onIntSym_inv h n with ⟨k, a, ex, h1⟩ | ⟨i, d, lo, hi, ex, h1⟩
  · subst ex
    obtain ⟨ek, h2⟩ := kindEq_inv h1 n
    subst ek
    obtain ⟨j, e, lo', hi', ey, h3⟩ := AV.onSym_inv h2 n
    subst ey
    obtain ⟨e1, e2, e3⟩ := rv_sym hy
    refine ⟨a, _, rv_int hx, e1, ?_⟩
    rcases ifB_cases h3 with ⟨p, q⟩ | ⟨p, q⟩
    · exact .inl ⟨by have := ltI_true p; omega, q⟩
    · rcases ifB_cases q with ⟨p2, q2⟩ | ⟨p2, q2⟩
      · exact absurd q2 n
      · exact .inr ⟨by have := ltI_false p2; omega, q2⟩
  · subst ex
    obtain ⟨e1, e2, e3⟩ := rv_sym hx
    rcases AV.onIntSym_inv h1 n with ⟨k, b, ey, h2⟩ | ⟨j, e, lo', hi', ey, h2⟩
    · subst ey
      obtain ⟨ek, h3⟩ := kindEq_inv h2 n
      subst ek
      refine ⟨_, b, e1, rv_int hy, ?_⟩
      rcases ifB_cases h3 with ⟨p, q⟩ | ⟨p, q⟩
      · exact .inl ⟨by have := ltI_true p; omega, q⟩
      · rcases ifB_cases q with ⟨p2, q2⟩ | ⟨p2, q2⟩
        · exact absurd q2 n
        · exact .inr ⟨by have := ltI_false p2; omega, q2⟩
    · subst ey
      obtain ⟨e4, e5, e6⟩ := rv_sym hy
      exact ⟨_, _, e1, e4, ltSS_ok h2 n e2 e3 e5 e6⟩
theorem symEqA_ok {x y : AV} {xv yv : Value} {k : Bool → β} (h : symEqA x y k s = r) (n : s ≠ r) (hx : RV ι x xv) (hy : RV ι y yv) :
    ∃ a b : Int, xv = .int .i64 a ∧ yv = .int .i64 b ∧ k (decide (a = b)) = r := by
  rcases AV.onIntSym_inv h n with ⟨t, a, ex, h1⟩ | ⟨i, d, lo, hi, ex, h1⟩
  · subst ex
    obtain ⟨ek, h2⟩ := kindEq_inv h1 n
    subst ek
    obtain ⟨j, e, lo', hi', ey, h3⟩ := AV.onSym_inv h2 n
    subst ey
    obtain ⟨e1, e2, e3⟩ := rv_sym hy
    refine ⟨a, _, rv_int hx, e1, ?_⟩
    rcases ifB_cases h3 with ⟨p, q⟩ | ⟨p, q⟩
    · rw [decide_eq_false (by have := ltI_true p; omega)]; exact q
    · rcases ifB_cases q with ⟨p2, q2⟩ | ⟨p2, q2⟩
      · rw [decide_eq_false (by have := ltI_true p2; omega)]; exact q2
      · exact absurd q2 n
  · subst ex
    obtain ⟨e1, e2, e3⟩ := rv_sym hx
    rcases AV.onIntSym_inv h1 n with ⟨t, b, ey, h2⟩ | ⟨j, e, lo', hi', ey, h2⟩
    · subst ey
      obtain ⟨ek, h3⟩ := kindEq_inv h2 n
      subst ek
      refine ⟨_, b, e1, rv_int hy, ?_⟩
      rcases ifB_cases h3 with ⟨p, q⟩ | ⟨p, q⟩
      · rw [decide_eq_false (by have := ltI_true p; omega)]; exact q
      · rcases ifB_cases q with ⟨p2, q2⟩ | ⟨p2, q2⟩
        · rw [decide_eq_false (by have := ltI_true p2; omega)]; exact q2
        · exact absurd q2 n
    · subst ey
      obtain ⟨e4, e5, e6⟩ := rv_sym hy
      refine ⟨_, _, e1, e4, ?_⟩
      rcases eqSS_ok h2 n e2 e3 e5 e6 with ⟨p, q⟩ | ⟨p, q⟩
      · rw [decide_eq_true p]; exact q
      · rw [decide_eq_false p]; exact q
theorem wrap_id {n : Int} (h1 : -9223372036854775808 ≤ n) (h2 : n ≤ 9223372036854775807) : IntKind.wrap .i64 n = n := by
  show (if (true && decide (n % 18446744073709551616 ≥ 9223372036854775808)) = true then n % 18446744073709551616 - 18446744073709551616 else n % 18446744073709551616) = n
  by_cases h3 : n % 18446744073709551616 ≥ 9223372036854775808
  · rw [if_pos (by simpa using h3)]; omega
  · rw [if_neg (by simpa using h3)]; omega
theorem symPlus_ok {i : Nat} {d lo hi m : Int} {k : AV → β} (h : symPlus i d lo hi m k s = r) (n : s ≠ r) (h1 : lo ≤ Env.val i + d) (h2 : Env.val i + d ≤ hi) :
    ∃ v, RV ι v (.int .i64 (IntKind.wrap .i64 (Env.val i + d + m))) ∧ k v = r := by
  unfold symPlus at h
  simp only [forceI_eq] at h
  obtain ⟨a, h3⟩ := ifB_inv h n
  obtain ⟨b, h4⟩ := ifB_inv h3 n
  have e1 : Int.add lo m = lo + m := rfl
  have e2 : Int.add hi m = hi + m := rfl
  have e3 : Int.add d m = d + m := rfl
  rw [e1] at a h4
  rw [e2] at b h4
  rw [e3] at h4
  have a1 := fits64_ok a
  have b1 := fits64_ok b
  refine ⟨_, ?_, h4⟩
  rw [wrap_id (by omega) (by omega), show Env.val i + d + m = Env.val i + (d + m) by omega]
  exact .sym _ _ _ _ (by omega) (by omega)
theorem symAddA_ok {x y : AV} {xv yv : Value} {k : AV → β} (h : symAddA x y k s = r) (n : s ≠ r) (hx : RV ι x xv) (hy : RV ι y yv) :
    ∃ (a b : Int) (v : AV), xv = .int .i64 a ∧ yv = .int .i64 b ∧ RV ι v (.int .i64 (IntKind.wrap .i64 (a + b))) ∧ k v = r := by
  rcases AV.onIntSym_inv h n with ⟨t, a, ex, h1⟩ | ⟨i, d, lo, hi, ex, h1⟩
  · subst ex
    obtain ⟨ek, h2⟩ := kindEq_inv h1 n
    subst ek
    obtain ⟨j, e, lo', hi', ey, h3⟩ := AV.onSym_inv h2 n
    subst ey
    obtain ⟨e1, e2, e3⟩ := rv_sym hy
    obtain ⟨v, hv, hk⟩ := symPlus_ok (ι := ι) h3 n e2 e3
    exact ⟨a, _, v, rv_int hx, e1, by rw [Int.add_comm]; exact hv, hk⟩
  · subst ex
    obtain ⟨e1, e2, e3⟩ := rv_sym hx
    obtain ⟨t, b, ey, h2⟩ := AV.onInt_inv h1 n
    subst ey
    obtain ⟨ek, h3⟩ := kindEq_inv h2 n
    subst ek
    obtain ⟨v, hv, hk⟩ := symPlus_ok (ι := ι) h3 n e2 e3
    exact ⟨_, b, v, e1, rv_int hy, hv, hk⟩
theorem symSubA_ok {x y : AV} {xv yv : Value} {k : AV → β} (h : symSubA x y k s = r) (n : s ≠ r) (hx : RV ι x xv) (hy : RV ι y yv) :
    ∃ (a b : Int) (v : AV), xv = .int .i64 a ∧ yv = .int .i64 b ∧ RV ι v (.int .i64 (IntKind.wrap .i64 (a - b))) ∧ k v = r := by
  obtain ⟨i, d, lo, hi, ex, h1⟩ := AV.onSym_inv h n
  subst ex
  obtain ⟨e1, e2, e3⟩ := rv_sym hx
  obtain ⟨t, b, ey, h2⟩ := AV.onInt_inv h1 n
  subst ey
  obtain ⟨ek, h3⟩ := kindEq_inv h2 n
  subst ek
  obtain ⟨v, hv, hk⟩ := symPlus_ok (ι := ι) h3 n e2 e3
  exact ⟨_, b, v, e1, rv_int hy, by rw [show Env.val i + d - b = Env.val i + d + Int.neg b from rfl]; exact hv, hk⟩
theorem symEither_inv {x y : AV} {yes no : β} (h : symEither x y yes no = r) : yes = r ∨ no = r := by
  rcases symEither_or x y yes no with e | e
  · exact .inl (e.symm.trans h)
  · exact .inr (e.symm.trans h)
end
/-! ### Values that are one -/
section
theorem AV.onSx_inv {β : Type} {v : AV} {k : Nat → Nat → β} {s r : β} (h : v.onSx k s = r) (n : s ≠ r) : ∃ t a, v = .sx t a ∧ k t a = r := by
  cases v with
  | sx t a => exact ⟨_, _, rfl, h⟩
  | _ => exact absurd h n
theorem nilB_ok {α : Type} {l : List α} (h : nilB l = true) : l = [] := by cases l <;> first | rfl | cases h
theorem eqOptN_ok {a b : Option Nat} (h : eqOptN a b = true) : a = b := by
  cases a <;> cases b <;> first | rfl | cases h | exact congrArg some (Nat.eq_of_beq_eq_true h)
theorem eqA1_ok {x y : AV} (h : eqA1 x y = true) : x = y := by
  have ft : false ≠ true := by decide
  unfold eqA1 at h
  cases x with
  | int t a =>
    obtain ⟨u, b, ey, h1⟩ := AV.onInt_inv (show y.onInt _ false = true from h) ft
    obtain ⟨h2, h3⟩ := eqN_inv h1 ft
    rw [eqI_ok] at h3
    rw [ey, kindN_inj h2, of_decide_eq_true h3]
  | str l u =>
    obtain ⟨m, v, ey, h1⟩ := AV.onStr_inv (show y.onStr _ false = true from h) ft
    obtain ⟨h2, h3⟩ := ifB_inv h1 ft
    rw [ey, Nat.eq_of_beq_eq_true h2, Nat.eq_of_beq_eq_true h3]
  | ptr g e i b =>
    obtain ⟨g', e', i', b', ey, h1⟩ := AV.onPtr_inv (show y.onPtr _ false = true from h) ft
    obtain ⟨h2, h3⟩ := eqN_inv h1 ft
    obtain ⟨h4, h5⟩ := eqN_inv h3 ft
    obtain ⟨h6, h7⟩ := eqN_inv h5 ft
    rw [ey, h2, h4, h6, Nat.eq_of_beq_eq_true h7]
  | nul t =>
    obtain ⟨u, ey, h1⟩ := AV.onNul_inv (show y.onNul _ false = true from h) ft
    rw [ey, nkEq_inv h1]
  | bool a =>
    obtain ⟨b, ey, h1⟩ := AV.onBool_inv (show y.onBool _ false = true from h) ft
    rw [ey]
    cases a <;> cases b <;> first | rfl | cases h1
  | sl g e i l c z =>
    obtain ⟨g', e', i', l', c', z', ey, h1⟩ := AV.onSl_inv (show y.onSl _ false = true from h) ft
    obtain ⟨h2, h3⟩ := eqN_inv h1 ft
    obtain ⟨h4, h5⟩ := eqN_inv h3 ft
    obtain ⟨h6, h7⟩ := eqN_inv h5 ft
    obtain ⟨h8, h9⟩ := eqN_inv h7 ft
    obtain ⟨h10, h11⟩ := eqN_inv h9 ft
    rw [ey, h2, h4, h6, h8, h10, eqOptN_ok h11]
  | map g =>
    rcases AV.onMapNul_inv (show y.onMapNul _ _ false = true from h) ft with ⟨g', ey, h1⟩ | ⟨_, _, h1⟩
    · rw [ey, Nat.eq_of_beq_eq_true h1]
    · cases h1
  | sym i d lo hi =>
    obtain ⟨j, e, lo', hi', ey, h1⟩ := AV.onSym_inv (show y.onSym _ false = true from h) ft
    obtain ⟨h2, h3⟩ := ifB_inv h1 ft
    obtain ⟨h4, h5⟩ := ifB_inv h3 ft
    obtain ⟨h6, h7⟩ := ifB_inv h5 ft
    rw [ey, Nat.eq_of_beq_eq_true h2, eqI_true h4, eqI_true h6, eqI_true h7]
  | sx t a =>
    obtain ⟨u, b, ey, h1⟩ := AV.onSx_inv (show y.onSx _ false = true from h) ft
    obtain ⟨h2, h3⟩ := ifB_inv h1 ft
    rw [ey, Nat.eq_of_beq_eq_true h2, Nat.eq_of_beq_eq_true h3]
  | fn f a b =>
    rcases AV.onFnNul_inv (show y.onFnNul _ _ false = true from h) ft with ⟨g, c, d, ey, h1⟩ | ⟨_, _, h1⟩
    · obtain ⟨h2, h3⟩ := eqN_inv h1 ft
      obtain ⟨h4, h5⟩ := ifB_inv h3 ft
      obtain ⟨h6, h7⟩ := ifB_inv h5 ft
      obtain ⟨h8, h9⟩ := ifB_inv h7 ft
      rw [ey, h2, nilB_ok h4, nilB_ok h6, nilB_ok h8, nilB_ok h9]
    · cases h1
  | _ => exact absurd h ft
theorem eqAL_ok : ∀ {a b : List AV}, eqAL a b = true → a = b
  | [], [], _ => rfl
  | [], _ :: _, h => by cases h
  | _ :: _, [], h => by cases h
  | x :: a, y :: b, h => by
    obtain ⟨h1, h2⟩ := ifB_inv (show ifB (eqA1 x y) (eqAL a b) false = true from h) (by decide)
    rw [eqA1_ok h1, eqAL_ok h2]
theorem eqAV_ok {x y : AV} (h : eqAV x y = true) : x = y := by
  have ft : false ≠ true := by decide
  cases x with
  | agg a =>
    obtain ⟨b, ey, h1⟩ := AV.onAgg_inv (show y.onAgg _ false = true from h) ft
    rw [ey, eqAL_ok h1]
  | tup a =>
    obtain ⟨b, ey, h1⟩ := AV.onTup_inv (show y.onTup _ false = true from h) ft
    rw [ey, eqAL_ok h1]
  | iface t a =>
    obtain ⟨u, b, ey, h1⟩ := AV.onIface_inv (show y.onIface _ false = true from h) ft
    obtain ⟨h2, h3⟩ := eqN_inv h1 ft
    rw [ey, h2, eqA1_ok h3]
  | _ => exact eqA1_ok h
theorem eqAVL_ok : ∀ {a b : List AV}, eqAVL a b = true → a = b
  | [], [], _ => rfl
  | [], _ :: _, h => by cases h
  | _ :: _, [], h => by cases h
  | x :: a, y :: b, h => by
    obtain ⟨h1, h2⟩ := ifB_inv (show ifB (eqAV x y) (eqAVL a b) false = true from h) (by decide)
    rw [eqAV_ok h1, eqAVL_ok h2]
theorem binN_inj {a b : BinOp} (h : binN a = binN b) : a = b := by cases a <;> cases b <;> first | rfl | cases h
theorem unN_inj {a b : UnOp} (h : unN a = unN b) : a = b := by cases a <;> cases b <;> first | rfl | cases h
theorem eqNL_ok : ∀ {a b : List Nat}, eqNL a b = true → a = b
  | [], [], _ => rfl
  | [], _ :: _, h => by cases h
  | _ :: _, [], h => by cases h
  | x :: a, y :: b, h => by
    obtain ⟨h1, h2⟩ := ifB_inv (show ifB (Nat.beq x y) (eqNL a b) false = true from h) (by decide)
    rw [Nat.eq_of_beq_eq_true h1, eqNL_ok h2]
theorem code_inj {a b : SOp} (h : a.code = b.code) : a = b := by
  cases a <;> cases b <;> simp only [SOp.code, List.cons.injEq, and_true] at h <;> first | (exact absurd h.1 (by decide)) | skip
  all_goals first | rfl | (obtain ⟨_, h1, h2⟩ := h; first | rw [binN_inj h1, h2] | rw [unN_inj h1, h2] | rw [h1, h2]) | (obtain ⟨_, h1⟩ := h; rw [h1])
theorem eqSOp_ok {a b : SOp} (h : eqSOp a b = true) : a = b := code_inj (eqNL_ok h)
end

/-! ### Operations on numbers and strings -/
section
variable {P : Program} {ι : Inj} {h : H} {w : World} {β : Type} {s r : β}
/-- A value of two operands, without memory. -/
def Bin (P : Program) (w : World) (ι : Inj) (s1 : Sem Value) (k : AV → β) (r : β) : Prop := ∃ u v, s1.run P w = .ok u w ∧ RV ι v u ∧ k v = r
theorem arith_ok {f : Int → Int → Int} {op : BinOp} (hf : ∀ k a b, binOp op 0 (.int k a) (.int k b) = pure (.int k (k.wrap (f a b)))) {x y : AV} {xv yv : Value} {k : AV → β} (hr : arith f x y k s = r) (n : s ≠ r) (hx : RV ι x xv) (hy : RV ι y yv) (t : TypeId) (ht : ∀ k a b, binOp op t (.int k a) (.int k b) = binOp op 0 (.int k a) (.int k b)) :
    Bin P w ι (binOp op t xv yv) k r := by
  unfold arith at hr
  obtain ⟨q, a, b, ex, ey, h1⟩ := onInts_inv hr n
  subst ex ey
  rw [forceI_eq, wrapC_ok] at h1
  rw [rv_int hx, rv_int hy]
  exact ⟨_, _, by rw [ht, hf, Sem.run_pure], .int _ _, h1⟩
theorem add_ok {x y : AV} {xv yv : Value} {k : AV → β} (hr : addA x y k s = r) (n : s ≠ r) (hx : RV ι x xv) (hy : RV ι y yv) (t : TypeId) : Bin P w ι (binOp .add t xv yv) k r := by
  unfold addA at hr
  rcases AV.onIntStr_inv hr n with ⟨q, a, ex, h1⟩ | ⟨l, u, ex, h1⟩
  · exact arith_ok (f := Int.add) (op := .add) (fun k a b => by simp [binOp, Op.intArith]; try rfl) h1 n hx hy t (fun k a b => by simp [binOp])
  · obtain ⟨m, v, ey, h2⟩ := AV.onStr_inv h1 n
    subst ex ey
    rw [forceN_eq, forceN_eq] at h2
    obtain ⟨h3, h4⟩ := le_inv h2 n
    obtain ⟨s1, rfl, rfl, rfl⟩ := rv_str hx
    obtain ⟨s2, rfl, rfl, rfl⟩ := rv_str hy
    have hs1 := size_eq s1
    have hs2 := size_eq s2
    have e : encS (s1 ++ s2) = encS s1 * 256 ^ s2.size + encS s2 := by
      have : (s1 ++ s2).data.toList = s1.data.toList ++ s2.data.toList := by simp
      rw [encS_eq, this, enc_append, hs2]; rfl
    have e2 : (s1 ++ s2).size = s1.size + s2.size := by simp
    have h3' : s1.size + s2.size ≤ 1000000000000 := h3
    refine ⟨.string (s1 ++ s2), _, ?_, .str _, by rw [e, e2]; exact h4⟩
    have hmax : IntKind.i64.max = 9223372036854775807 := by decide
    have hno : ¬ ((s1.size + s2.size : Nat) : Int) > IntKind.i64.max := by rw [hmax]; omega
    simp only [binOp, Op.stringOp, if_neg hno]
    rfl
theorem toList_eq (s : ByteArray) : s.toList = s.data.toList := ByteArray.toList_eq s
theorem cmp_ok {op : BinOp} {fi : Int → Int → Bool} {fs : Nat → Nat → Nat → Nat → Bool} (hfi : ∀ t k a b, binOp op t (.int k a) (.int k b) = pure (.bool (fi a b)))
    (hfs : ∀ t (a b : ByteArray), binOp op t (.string a) (.string b) = pure (.bool (fs a.size (encS a) b.size (encS b)))) {x y : AV} {xv yv : Value} {k : AV → β} (hr : cmpA fi fs x y k s = r) (n : s ≠ r) (hx : RV ι x xv) (hy : RV ι y yv) (t : TypeId) : Bin P w ι (binOp op t xv yv) k r := by
  unfold cmpA at hr
  rcases AV.onIntStr_inv hr n with ⟨q, a, ex, h1⟩ | ⟨l, u, ex, h1⟩
  · obtain ⟨q, a, b, ex, ey, h2⟩ := onInts_inv h1 n
    subst ex ey
    rw [okB_eq] at h2
    rw [rv_int hx, rv_int hy]
    exact ⟨_, _, by rw [hfi, Sem.run_pure], .bool _, h2⟩
  · obtain ⟨m, v, ey, h2⟩ := AV.onStr_inv h1 n
    subst ex ey
    rw [okB_eq] at h2
    obtain ⟨s1, rfl, rfl, rfl⟩ := rv_str hx
    obtain ⟨s2, rfl, rfl, rfl⟩ := rv_str hy
    exact ⟨_, _, by rw [hfs, Sem.run_pure], .bool _, h2⟩
theorem fullOf_ok (k : IntKind) : fullOf k = 2 ^ k.bits := by cases k <;> rfl
theorem uN_ok (k : IntKind) (a : Int) : (BitVec.ofInt k.bits a).toNat = uN (fullOf k) a := by
  rw [BitVec.toNat_ofInt, ← fullOf_ok]
  have hL : 0 < fullOf k := by rw [fullOf_ok]; exact Nat.two_pow_pos _
  cases a with
  | ofNat m =>
    show ((m : Int) % ((fullOf k : Nat) : Int)).toNat = m % fullOf k
    rw [← Int.natCast_emod]; rfl
  | negSucc m =>
    show ((Int.negSucc m) % ((fullOf k : Nat) : Int)).toNat = (fullOf k - 1) - m % fullOf k
    rw [Int.negSucc_emod _ (by omega), ← Int.natCast_emod]
    have := Nat.mod_lt m hL
    omega
theorem bits_ok {op : BinOp} {f : Nat → Nat → Nat} (bop : (n : Nat) → BitVec n → BitVec n → BitVec n) (hop : ∀ n (x y : BitVec n), (bop n x y).toNat = f x.toNat y.toNat) (hb : ∀ (p : Nat) x y, x < 2 ^ p → y < 2 ^ p → f x y < 2 ^ p)
    (hf : ∀ t k a b, binOp op t (.int k a) (.int k b) = pure (.int k (k.wrap (bop k.bits (BitVec.ofInt k.bits a) (BitVec.ofInt k.bits b)).toNat))) {x y : AV} {xv yv : Value} {k : AV → β} (hr : bitsA f x y k s = r) (n : s ≠ r) (hx : RV ι x xv) (hy : RV ι y yv) (t : TypeId) : Bin P w ι (binOp op t xv yv) k r := by
  unfold bitsA at hr
  obtain ⟨q, a, b, ex, ey, h2⟩ := onInts_inv hr n
  rw [forceN_eq, forceN_eq, forceI_eq, wrapC_ok] at h2
  subst ex ey
  rw [rv_int hx, rv_int hy]
  refine ⟨_, _, by rw [hf, Sem.run_pure], .int _ _, ?_⟩
  rw [hop, uN_ok, uN_ok]
  exact h2
theorem bits_eq (k : IntKind) : bitsOf k = k.bits := by cases k <;> rfl
theorem shl_ok {x y : AV} {xv yv : Value} {k : AV → β} (hr : shlA x y k s = r) (n : s ≠ r) (hx : RV ι x xv) (hy : RV ι y yv) (t : TypeId) : Bin P w ι (binOp .shl t xv yv) k r := by
  unfold shlA at hr
  obtain ⟨q, a, ex, h1⟩ := AV.onInt_inv hr n
  obtain ⟨q', b, ey, h2⟩ := AV.onInt_inv h1 n
  obtain ⟨m, eb, h3⟩ := onNat_inv h2 n
  rw [forceI_eq, wrapC_ok, bits_eq] at h3
  subst ex ey eb
  rw [rv_int hx, rv_int hy]
  refine ⟨_, _, ?_, .int _ _, h3⟩
  have : ¬ ((m : Int) < 0) := by omega
  simp only [binOp, Op.shift, if_neg this, Int.toNat_natCast]
  have e : ((2 : Int) ^ min m q.bits) = ((2 ^ min m q.bits : Nat) : Int) := by simp
  rw [e]; rfl
theorem shr_ok {x y : AV} {xv yv : Value} {k : AV → β} (hr : shrA x y k s = r) (n : s ≠ r) (hx : RV ι x xv) (hy : RV ι y yv) (t : TypeId) : Bin P w ι (binOp .shr t xv yv) k r := by
  unfold shrA at hr
  obtain ⟨q, a, ex, h1⟩ := AV.onInt_inv hr n
  obtain ⟨m1, ea, h1'⟩ := onNat_inv h1 n
  obtain ⟨q', b, ey, h2⟩ := AV.onInt_inv h1' n
  obtain ⟨m, eb, h3⟩ := onNat_inv h2 n
  rw [forceN_eq, bits_eq] at h3
  subst ex ey ea eb
  rw [rv_int hx, rv_int hy]
  refine ⟨_, _, ?_, .int _ _, h3⟩
  have : ¬ ((m : Int) < 0) := by omega
  simp only [binOp, Op.shift, if_neg this, Int.toNat_natCast]
  have e : ((2 : Int) ^ min m q.bits) = ((2 ^ min m q.bits : Nat) : Int) := by simp
  have hp : 0 < 2 ^ min m q.bits := Nat.pow_pos (by decide)
  rw [e, Int.fdiv_eq_ediv_of_nonneg _ (by omega)]; rfl
theorem quo_ok {x y : AV} {xv yv : Value} {k : AV → β} (hr : quoA x y k s = r) (n : s ≠ r) (hx : RV ι x xv) (hy : RV ι y yv) (t : TypeId) : Bin P w ι (binOp .quo t xv yv) k r := by
  unfold quoA at hr
  obtain ⟨q, a, b, ex, ey, h2⟩ := onInts_inv hr n
  subst ex ey
  rw [rv_int hx, rv_int hy]
  rw [eqI_ok, ifB_eq] at h2
  by_cases e : b = 0
  · rw [decide_eq_true e, if_pos rfl] at h2; exact absurd h2 n
  · rw [decide_eq_false e, if_neg (by decide), forceI_eq, wrapC_ok] at h2
    exact ⟨_, _, by simp only [binOp, Op.intDiv, if_neg e, ne_eq, not_true, if_false]; rfl, .int _ _, h2⟩
theorem rem_ok {x y : AV} {xv yv : Value} {k : AV → β} (hr : remA x y k s = r) (n : s ≠ r) (hx : RV ι x xv) (hy : RV ι y yv) (t : TypeId) : Bin P w ι (binOp .rem t xv yv) k r := by
  unfold remA at hr
  obtain ⟨q, a, b, ex, ey, h2⟩ := onInts_inv hr n
  subst ex ey
  rw [rv_int hx, rv_int hy]
  rw [eqI_ok, ifB_eq] at h2
  by_cases e : b = 0
  · rw [decide_eq_true e, if_pos rfl] at h2; exact absurd h2 n
  · rw [decide_eq_false e, if_neg (by decide), forceI_eq] at h2
    exact ⟨_, _, by simp only [binOp, Op.intDiv, if_neg e, ne_eq, not_true, if_false]; rfl, .int _ _, h2⟩
end

/-! ### Parts of a value -/
theorem takeL_eq : ∀ (n : Nat) (l : List AV), takeL n l = l.take n
  | 0, _ => by simp; rfl
  | n + 1, [] => rfl
  | n + 1, x :: l => by
    show x :: takeL n l = _
    rw [takeL_eq n l]; rfl
theorem dropL_eq : ∀ (l : List AV) (n : Nat), dropL l n = l.drop n
  | [], _ => by simp; rfl
  | x :: l, 0 => rfl
  | x :: l, n + 1 => by
    show dropL l n = _
    rw [dropL_eq l n]; rfl
theorem RVL.drop {ι : Inj} : ∀ {l : List AV} {m : List Value} (n : Nat), RVL ι l m → RVL ι (l.drop n) (m.drop n)
  | _, _, 0, h => h
  | _, _, _ + 1, .nil => .nil
  | _, _, n + 1, .cons _ h => RVL.drop n h
theorem RVL.take {ι : Inj} : ∀ {l : List AV} {m : List Value} (n : Nat), RVL ι l m → RVL ι (l.take n) (m.take n)
  | _, _, 0, _ => .nil
  | _, _, _ + 1, .nil => .nil
  | _, _, n + 1, .cons h1 h => .cons h1 (RVL.take n h)
section
variable {P : Program} {RT : List Rule} {G : Nat → AV} {ι : Inj} {h : H} {w : World} {β : Type} {s r : β}
theorem aggB_run {t : TypeId} {b : Bool} (hb : (Ty.mk P G RT).aggB t = some b) : (isAgg t).run P w = .ok b w ∧ ∃ i, P.info? t = some i ∧ (Ty.mk P G RT).size t = i.size := by
  unfold Ty.aggB at hb
  cases hu : P.underlying t with
  | none => simp only [hu] at hb; cases hb
  | some d =>
    obtain ⟨i, hi⟩ := info_of_underlying hu
    refine ⟨?_, i, hi, by simp [Ty.size, hi]⟩
    rw [isAgg_run hu]
    simp only [hu] at hb
    cases d <;> simp at hb <;> subst hb <;> rfl
theorem partA_ok {t : TypeId} {off : Nat} {l : List AV} {cs : Array Value} {k : AV → β} (hr : partA ((Ty.mk P G RT).aggB t) off ((Ty.mk P G RT).size t) l k s = r) (n : s ≠ r) (hl : RVL ι l cs.toList) :
    ∃ v x, (part t cs off).run P w = .ok x w ∧ RV ι v x ∧ k v = r := by
  unfold partA at hr
  obtain ⟨b, hb, hr⟩ := optRec_inv hr n
  obtain ⟨h1, i, hi, hs⟩ := aggB_run (w := w) hb
  unfold part
  simp only [Sem.run_bind, h1, Result.andThen]
  cases b with
  | true =>
    obtain ⟨h2, h3⟩ := le_inv (hr : le _ _ _ _ = r) n
    rw [takeL_eq, dropL_eq] at h3
    refine ⟨_, _, ?_, .agg (x := cs.extract off (off + i.size)) ?_, h3⟩
    · simp only [if_true, Sem.run_bind, sizeOf_run hi, Result.andThen, Sem.run_pure]
    · rw [Array.toList_extract, List.extract_eq_take_drop, show off + i.size - off = i.size by omega, hs]
      exact (hl.drop off).take i.size
  | false =>
    obtain ⟨h2, h3⟩ := le_inv (hr : le _ _ _ _ = r) n
    rw [lenL_eq] at h2
    obtain ⟨x, hx, hv⟩ := hl.get off h2
    refine ⟨_, x, ?_, hv, h3⟩
    have : cs[off]? = some x := by simpa using hx
    simp [this, Sem.run_pure]

/-! ### Equality -/
theorem frozen_run (a : Addr) : (frozen a).run P w = .ok (w.frozen? a) w := rfl
theorem shape_run (b : Nat) : (shape b).run P w = .ok (w.shape? b) w := rfl
/-- Blocks in which nothing is frozen are told apart. -/
theorem sameAddr_other {a b : Addr} (hab : a.block ≠ b.block) {C el fr C' el' fr'} (ha : w.heap[a.block]? = some (.cells C el fr)) (hb : w.heap[b.block]? = some (.cells C' el' fr')) (fa : ∀ j, ¬ (fr.1 ≤ j ∧ j < fr.2)) (fb : ∀ j, ¬ (fr'.1 ≤ j ∧ j < fr'.2)) :
    (sameAddr a b).run P w = .ok false w := by
  have fz : ∀ (x : Addr) {C el fr}, w.heap[x.block]? = some (.cells C el fr) → (∀ j, ¬ (fr.1 ≤ j ∧ j < fr.2)) → w.frozen? x = false := fun x C el fr hx hf => by
    simp only [World.frozen?, hx]
    have := hf x.off
    by_cases c1 : fr.1 ≤ x.off
    · have : ¬ x.off < fr.2 := fun c2 => hf _ ⟨c1, c2⟩
      simp [this]
    · simp [c1]
  have sh : ∀ (x : Addr) {C el fr}, w.heap[x.block]? = some (.cells C el fr) → w.shape? x.block = some (el, C.size) := fun x C el fr hx => by simp [World.shape?, hx]
  have h1 : (a.block == b.block) = false := by simpa using hab
  have st : ∀ (x : Addr) {C el fr}, w.heap[x.block]? = some (.cells C el fr) → (∀ j, ¬ (fr.1 ≤ j ∧ j < fr.2)) → (stringish x).run P w = .ok false w := fun x C el fr hx hf => by
    unfold stringish
    simp only [Sem.run_bind, frozen_run, Result.andThen, fz x hx hf, Bool.false_eq_true, if_false]
    simp only [shape_run, sh x hx, frozen_run]
    rw [fz ⟨x.block, C.size, none⟩ hx hf]
  have nv : ∀ (x : Addr) {C el fr}, w.heap[x.block]? = some (.cells C el fr) → (noView x).run P w = .ok () w := fun x C el fr hx => by
    unfold noView viewAt
    simp only [Sem.run_bind, shape_run, Result.andThen, sh x hx]
    rfl
  unfold sameAddr
  simp only [h1, Bool.false_eq_true, if_false, Sem.run_bind, frozen_run, Result.andThen, fz a ha fa, Bool.false_and, nv a ha, nv b hb]
  unfold mayBeOne
  simp only [Sem.run_bind, st a ha fa, st b hb fb, Result.andThen, shape_run, sh a ha, sh b hb, Sem.run_pure, Bool.false_and, Bool.or_false, Bool.false_eq_true, if_false]
theorem plainMk_inv {g e : Nat} {k : β} (hr : plainMk h g e k s = r) (n : s ≠ r) (S : Sim ι h w) {l : Loc} (hl : ι g e = some l) : (∃ C el fr, w.heap[l.b]? = some (.cells C el fr) ∧ ∀ j, ¬ (fr.1 ≤ j ∧ j < fr.2)) ∧ k = r := by
  unfold plainMk at hr
  obtain ⟨c, len, ep, fl, mk, ho, h1⟩ := onCells_inv hr n
  obtain ⟨rfl, h2⟩ := eqN_inv h1 n
  obtain ⟨h3, h4⟩ := le_inv h2 n
  obtain ⟨⟨C, el, fr, a1, a2, a3, _⟩, _⟩ := S.cells hl ho h3
  exact ⟨⟨C, el, fr, a1, a3 rfl⟩, h4⟩
theorem eqPtr_ok {x y : AV} {xv yv : Value} {k : Bool → β} (hr : eqPtr x y h k s = r) (n : s ≠ r) (S : Sim ι h w) (hx : RV ι x xv) (hy : RV ι y yv) {t e : TypeId} {i : TypeInfo} (ht : P.underlying t = some (.pointer e)) (he : P.info? e = some i) (hz : i.size ≠ 0) (d : Nat) :
    ∃ b, (Op.equalIn (d + 1) t xv yv).run P w = .ok b w ∧ k b = r := by
  unfold eqPtr at hr
  rcases AV.onPtrNul_inv hr n with ⟨g, e1, i1, ub, ex, h1⟩ | ⟨t1, ex, h1⟩
  · subst ex
    cases hx with
    | @ptr _ _ _ _ o l hl hlo hhi hio =>
    rcases AV.onPtrNul_inv h1 n with ⟨g', e', i', ub', ey, h2⟩ | ⟨t1, ey, h2⟩
    · subst ey
      cases hy with
      | @ptr _ _ _ _ o' l' hl' hlo' hhi' hio' =>
      rw [eqN_eq] at h2
      have hgo : (Op.equalIn (d + 1) t (.pointer (some ⟨l.b, o, none⟩)) (.pointer (some ⟨l'.b, o', none⟩))).run P w = (sameAddr ⟨l.b, o, none⟩ ⟨l'.b, o', none⟩).run P w := by
        simp only [Op.equalIn, Sem.run_bind, underlying_run ht, Result.andThen, sizeOf_run he, ne_eq, hz, not_false_eq_true, if_true]
      by_cases hgg : g = g'
      · subst hgg
        rw [if_pos rfl] at h2
        obtain ⟨rfl, h3⟩ := eqN_inv h2 n
        rw [hl] at hl'; cases hl'
        refine ⟨_, ?_, h3⟩
        rw [hgo]
        simp only [sameAddr, beq_self_eq_true, if_true, Sem.run_pure]
        congr 1
        by_cases q : i1 = i'
        · subst q
          have : o = o' := by omega
          subst this
          rw [show Nat.beq i1 i1 = true from Nat.beq_refl i1]; simp
        · have h4 : ¬ o = o' := by omega
          rw [show Nat.beq i1 i' = false from by rw [Bool.eq_false_iff]; intro x; exact q (Nat.eq_of_beq_eq_true x)]
          simp [h4]
      · rw [if_neg hgg] at h2
        obtain ⟨⟨C, el, fr, a1, a2⟩, h3⟩ := plainMk_inv h2 n S hl
        obtain ⟨⟨C', el', fr', b1, b2⟩, h4⟩ := plainMk_inv h3 n S hl'
        refine ⟨_, ?_, h4⟩
        rw [hgo]
        exact sameAddr_other (fun hb => hgg (S.inj _ _ _ _ _ _ hl hl' hb).1) a1 b1 a2 b2
    · subst ey
      obtain ⟨q, h3⟩ := ifB_inv h2 n
      have := nkEq_inv q
      subst this
      cases hy
      exact ⟨_, by simp only [Op.equalIn, Sem.run_bind, underlying_run ht, Result.andThen, Sem.run_pure], h3⟩
  · subst ex
    obtain ⟨q, h2⟩ := ifB_inv h1 n
    have := nkEq_inv q
    subst this
    cases hx
    rcases AV.onPtrNul_inv h2 n with ⟨g', e', i', ub', ey, h3⟩ | ⟨t1, ey, h3⟩
    · subst ey
      cases hy
      exact ⟨_, by simp only [Op.equalIn, Sem.run_bind, underlying_run ht, Result.andThen, Sem.run_pure]; rfl, h3⟩
    · subst ey
      obtain ⟨q, h4⟩ := ifB_inv h3 n
      have := nkEq_inv q
      subst this
      cases hy
      exact ⟨_, by simp only [Op.equalIn, Sem.run_bind, underlying_run ht, Result.andThen, Sem.run_pure]; rfl, h4⟩

/-- The parts of two structs, one behind the other. -/
theorem eqT_succ (T : Ty) (d : Nat) (t : TypeId) : eqT T (d + 1) t = match T.P.underlying t with
    | some .bool => ⟨fun _ x y _ k s => x.onBool (fun a => y.onBool (fun b => k (ifB a b (!b))) s) s⟩
    | some (.int _) => ⟨fun _ x y _ k s => symEither x y (symEqA x y k s) (onInts x y (fun _ a b => k (eqI a b)) s)⟩
    | some .string => ⟨fun _ x y _ k s => x.onStr (fun l u => y.onStr (fun m t => k (eqS l u m t)) s) s⟩
    | some (.pointer e) => eqN (β := EqC) (T.size e) 0 badEq ⟨fun _ x y h k s => eqPtr x y h k s⟩
    | some (.slice _) => ⟨fun _ x y _ k s => x.onSlNul (fun _ _ _ _ _ _ => y.onNul (fun t => ifB (nkEq t .s) (k false) s) s) (fun t => ifB (nkEq t .s) (y.onSlNul (fun _ _ _ _ _ _ => k false) (fun t => ifB (nkEq t .s) (k true) s) s) s) s⟩
    | some (.map _ _) => ⟨fun _ x y _ k s => x.onMapNul (fun _ => y.onNul (fun t => ifB (nkEq t .m) (k false) s) s) (fun t => ifB (nkEq t .m) (y.onMapNul (fun _ => k false) (fun t => ifB (nkEq t .m) (k true) s) s) s) s⟩
    | some (.func _ _ _) => ⟨fun _ x y _ k s => x.onFnNul (fun _ _ _ => y.onNul (fun t => ifB (nkEq t .f) (k false) s) s) (fun t => ifB (nkEq t .f) (y.onFnNul (fun _ _ _ => k false) (fun t => ifB (nkEq t .f) (k true) s) s) s) s⟩
    | some (.interface _) => ⟨fun _ x y _ k s => x.onIfaceNul (fun t _ => y.onIfaceNul (fun u _ => eqN t u s (k false)) (fun t => ifB (nkEq t .i) (k false) s) s) (fun t => ifB (nkEq t .i) (y.onIfaceNul (fun _ _ => k false) (fun t => ifB (nkEq t .i) (k true) s) s) s) s⟩
    | some (.struct fs) => bif T.P.stoodInHeld t then badEq else ⟨fun β x y h k s => x.onAgg (fun a => y.onAgg (fun b => eqFields (fun u off l _ k s => partA (T.aggB u) off (T.size u) l k s) (eqT T d) fs.toList β a b h k s) s) s⟩
    | _ => badEq := rfl
theorem beqS_ok (s1 s2 : ByteArray) : eqS s1.size (encS s1) s2.size (encS s2) = (s1 == s2) := by
  rw [← size_eq s1, ← size_eq s2, encS_eq, encS_eq]
  refine (eqS_ok _ _).trans ?_
  show _ = (s1.data == s2.data)
  by_cases e : s1.data = s2.data
  · rw [e]; simp
  · have e2 : ¬ s1.data.toList = s2.data.toList := fun hh => e (Array.ext' hh)
    rw [show (s1.data == s2.data) = false by simpa using e]
    simpa using e2
/-- What the model does over a struct's fields. -/
def fieldsEq (D : Nat) (xs ys : Array Value) : List Field → Sem Bool
  | [] => pure true
  | f :: l => do
    if f.name ≠ "_" then
      if !(← Op.equalIn D f.type (← part f.type xs f.offset) (← part f.type ys f.offset)) then return false
    fieldsEq D xs ys l
theorem struct_eq {t : TypeId} {fs : Array Field} (hu : P.underlying t = some (.struct fs)) (hst : P.stoodInHeld t = false) (D : Nat) (xs ys : Array Value) :
    (Op.equalIn (D + 1) t (.agg xs) (.agg ys)).run P w = (fieldsEq D xs ys fs.toList).run P w := by
  simp only [Op.equalIn, Sem.run_bind, underlying_run hu, Result.andThen, program, Sem.run, hst, Bool.false_eq_true, if_false]
  rw [← Array.forIn_toList]
  generalize fs.toList = l
  clear hu hst
  induction l generalizing w with
  | nil => simp [fieldsEq, Sem.run_pure]
  | cons f l ih =>
    simp only [List.forIn_cons, Sem.run_bind, fieldsEq]
    by_cases hf : f.name = "_"
    · simp only [hf, ne_eq, not_true, if_false, Sem.run_pure, Result.andThen]
      exact ih
    · simp only [ne_eq, hf, not_false_eq_true, if_true, Sem.run_bind]
      cases h1 : (part f.type xs f.offset).run P w with
      | halt _ _ => rfl
      | ok v1 w1 =>
        dsimp only [Result.andThen]
        cases h2 : (part f.type ys f.offset).run P w1 with
        | halt _ _ => rfl
        | ok v2 w2 =>
          dsimp only [Result.andThen]
          cases h3 : (Op.equalIn D f.type v1 v2).run P w2 with
          | halt _ _ => rfl
          | ok b w3 =>
            dsimp only [Result.andThen]
            cases b with
            | true => simp only [Bool.not_true, Bool.false_eq_true, if_false, Sem.run_pure]; exact ih
            | false => simp only [Bool.not_false, if_true, Sem.run_pure]
theorem eqFields_ok {d D : Nat} (ih : ∀ (t' : TypeId) (x' y' : AV) (xv' yv' : Value) (k' : Bool → β), (eqT ⟨P, G, RT⟩ d t').run β x' y' h k' s = r → Sim ι h w → RV ι x' xv' → RV ι y' yv' → ∃ b, (Op.equalIn D t' xv' yv').run P w = .ok b w ∧ k' b = r) (n : s ≠ r) (S : Sim ι h w)
    {a b : List AV} {xs ys : Array Value} (ha : RVL ι a xs.toList) (hb : RVL ι b ys.toList) :
    ∀ (fs : List Field) (k : Bool → β), eqFields (fun u off l _ k s => partA ((Ty.mk P G RT).aggB u) off ((Ty.mk P G RT).size u) l k s) (eqT ⟨P, G, RT⟩ d) fs β a b h k s = r → ∃ q, (fieldsEq D xs ys fs).run P w = .ok q w ∧ k q = r
  | [], k, hr => ⟨true, rfl, hr⟩
  | f :: l, k, hr => by
    have hr' : (match f.name with
      | "_" => eqFields (fun u off l _ k s => partA ((Ty.mk P G RT).aggB u) off ((Ty.mk P G RT).size u) l k s) (eqT ⟨P, G, RT⟩ d) l β a b h k s
      | _ => partA ((Ty.mk P G RT).aggB f.type) f.offset ((Ty.mk P G RT).size f.type) a (fun x => partA ((Ty.mk P G RT).aggB f.type) f.offset ((Ty.mk P G RT).size f.type) b (fun y => (eqT ⟨P, G, RT⟩ d f.type).run β x y h (fun r => ifB r (eqFields (fun u off l _ k s => partA ((Ty.mk P G RT).aggB u) off ((Ty.mk P G RT).size u) l k s) (eqT ⟨P, G, RT⟩ d) l β a b h k s) (k false)) s) s) s) = r := hr
    unfold fieldsEq
    by_cases hf : f.name = "_"
    · simp only [hf, ne_eq, not_true, if_false] at hr' ⊢
      exact eqFields_ok ih n S ha hb l k hr'
    · have hr2 : partA ((Ty.mk P G RT).aggB f.type) f.offset ((Ty.mk P G RT).size f.type) a (fun x => partA ((Ty.mk P G RT).aggB f.type) f.offset ((Ty.mk P G RT).size f.type) b (fun y => (eqT ⟨P, G, RT⟩ d f.type).run β x y h (fun r => ifB r (eqFields (fun u off l _ k s => partA ((Ty.mk P G RT).aggB u) off ((Ty.mk P G RT).size u) l k s) (eqT ⟨P, G, RT⟩ d) l β a b h k s) (k false)) s) s) s = r := by
        split at hr'
        · rename_i hh; exact absurd hh hf
        · exact hr'
      obtain ⟨x, xv, p1, p2, h1⟩ := partA_ok (w := w) hr2 n ha
      obtain ⟨y, yv, p3, p4, h2⟩ := partA_ok (w := w) h1 n hb
      obtain ⟨q, p5, h3⟩ := ih _ _ _ _ _ _ h2 S p2 p4
      simp only [ne_eq, hf, not_false_eq_true, if_true, Sem.run_bind, p1, p3, p5, Result.andThen]
      cases q with
      | true =>
        obtain ⟨q', p6, h4⟩ := eqFields_ok ih n S ha hb l k h3
        exact ⟨q', by simpa [Sem.run_bind, Result.andThen, Sem.run_pure] using p6, h4⟩
      | false => exact ⟨false, by simp [Sem.run_pure], h3⟩
def nulV : NK → Value
  | .p => .pointer none
  | .s => .slice none 0 0
  | .m => .map none
  | .f => .nilFunc
  | .i => .nilIface
theorem rv_nul {k : NK} {u : Value} (h : RV ι (.nul k) u) : u = nulV k := by cases h <;> rfl
theorem eqT_ok : ∀ (d D : Nat), d ≤ D → ∀ (t : TypeId) (x y : AV) (xv yv : Value) (k : Bool → β), (eqT ⟨P, G, RT⟩ d t).run β x y h k s = r → s ≠ r → Sim ι h w → RV ι x xv → RV ι y yv → ∃ b, (Op.equalIn D t xv yv).run P w = .ok b w ∧ k b = r
  | 0, _, _, _, _, _, _, _, _, hr, n, _, _, _ => absurd hr n
  | d + 1, 0, hd, _, _, _, _, _, _, _, _, _, _, _ => by omega
  | d + 1, D + 1, hd, t, x, y, xv, yv, k, hr, n, S, hx, hy => by
    have ih := fun t' x' y' xv' yv' k' hr' S' hx' hy' => eqT_ok d D (by omega) t' x' y' xv' yv' k' hr' n S' hx' hy'
    rw [eqT_succ] at hr
    cases hu : P.underlying t with
    | none => simp only [hu] at hr; exact absurd hr n
    | some q =>
      simp only [hu] at hr
      cases q with
      | bool =>
        obtain ⟨a, ex, h1⟩ := AV.onBool_inv hr n
        obtain ⟨b, ey, h2⟩ := AV.onBool_inv h1 n
        subst ex ey
        rw [rv_bool hx, rv_bool hy]
        refine ⟨_, by simp only [Op.equalIn, Sem.run_bind, underlying_run hu, Result.andThen, Sem.run_pure]; rfl, ?_⟩
        cases a <;> cases b <;> exact h2
      | int kk =>
        rcases symEither_or x y (symEqA x y k s) (onInts x y (fun _ a b => k (eqI a b)) s) with e0 | e0
        · obtain ⟨a, b, ex, ey, h1⟩ := symEqA_ok (e0.symm.trans hr) n hx hy
          rw [ex, ey]
          refine ⟨_, by simp only [Op.equalIn, Sem.run_bind, underlying_run hu, Result.andThen, if_true, Sem.run_pure]; rfl, ?_⟩
          rw [show (a == b) = decide (a = b) from rfl]; exact h1
        · obtain ⟨q, a, b, ex, ey, h1⟩ := onInts_inv (e0.symm.trans hr) n
          subst ex ey
          rw [rv_int hx, rv_int hy]
          refine ⟨_, by simp only [Op.equalIn, Sem.run_bind, underlying_run hu, Result.andThen, if_true, Sem.run_pure]; rfl, ?_⟩
          rw [eqI_ok] at h1
          rw [show (a == b) = decide (a = b) from rfl]; exact h1
      | string =>
        obtain ⟨l1, u1, ex, h1⟩ := AV.onStr_inv hr n
        obtain ⟨l2, u2, ey, h2⟩ := AV.onStr_inv h1 n
        subst ex ey
        obtain ⟨s1, rfl, rfl, rfl⟩ := rv_str hx
        obtain ⟨s2, rfl, rfl, rfl⟩ := rv_str hy
        refine ⟨_, by simp only [Op.equalIn, Sem.run_bind, underlying_run hu, Result.andThen, Sem.run_pure]; rfl, ?_⟩
        have : eqS s1.size (encS s1) s2.size (encS s2) = (s1 == s2) := beqS_ok s1 s2
        rw [← this]; exact h2
      | pointer e =>
        replace hr : (eqN (β := EqC) ((Ty.mk P G RT).size e) 0 badEq ⟨fun _ x y h k s => eqPtr x y h k s⟩).run β x y h k s = r := hr
        rw [eqN_eq] at hr
        by_cases hz : (Ty.mk P G RT).size e = 0
        · rw [if_pos hz] at hr; exact absurd hr n
        · rw [if_neg hz] at hr
          cases hi : P.info? e with
          | none => simp [Ty.size, hi] at hz
          | some i => exact eqPtr_ok hr n S hx hy hu hi (by simpa [Ty.size, hi] using hz) D
      | slice e =>
        rcases AV.onSlNul_inv hr n with ⟨_, _, _, _, _, _, ex, h1⟩ | ⟨t1, ex, h1⟩
        · obtain ⟨t2, ey, h2⟩ := AV.onNul_inv h1 n
          obtain ⟨q, h3⟩ := ifB_inv h2 n
          have := nkEq_inv q
          subst ex ey this
          rw [rv_nul hy, nulV]
          cases hx
          exact ⟨_, by simp only [Op.equalIn, Sem.run_bind, underlying_run hu, Result.andThen, Sem.run_pure], h3⟩
        · obtain ⟨q, h2⟩ := ifB_inv h1 n
          have := nkEq_inv q
          subst ex this
          rw [rv_nul hx, nulV]
          rcases AV.onSlNul_inv h2 n with ⟨_, _, _, _, _, _, ey, h3⟩ | ⟨t1, ey, h3⟩
          · subst ey
            cases hy
            exact ⟨_, by simp only [Op.equalIn, Sem.run_bind, underlying_run hu, Result.andThen, Sem.run_pure]; rfl, h3⟩
          · obtain ⟨q, h4⟩ := ifB_inv h3 n
            have := nkEq_inv q
            subst ey this
            rw [rv_nul hy, nulV]
            exact ⟨_, by simp only [Op.equalIn, Sem.run_bind, underlying_run hu, Result.andThen, Sem.run_pure]; rfl, h4⟩
      | map _ _ =>
        rcases AV.onMapNul_inv hr n with ⟨_, ex, h1⟩ | ⟨t1, ex, h1⟩
        · obtain ⟨t2, ey, h2⟩ := AV.onNul_inv h1 n
          obtain ⟨q, h3⟩ := ifB_inv h2 n
          have := nkEq_inv q
          subst ex ey this
          rw [rv_nul hy, nulV]
          cases hx
          exact ⟨_, by simp only [Op.equalIn, Sem.run_bind, underlying_run hu, Result.andThen, Sem.run_pure], h3⟩
        · obtain ⟨q, h2⟩ := ifB_inv h1 n
          have := nkEq_inv q
          subst ex this
          rw [rv_nul hx, nulV]
          rcases AV.onMapNul_inv h2 n with ⟨_, ey, h3⟩ | ⟨t1, ey, h3⟩
          · subst ey
            cases hy
            exact ⟨_, by simp only [Op.equalIn, Sem.run_bind, underlying_run hu, Result.andThen, Sem.run_pure]; rfl, h3⟩
          · obtain ⟨q, h4⟩ := ifB_inv h3 n
            have := nkEq_inv q
            subst ey this
            rw [rv_nul hy, nulV]
            exact ⟨_, by simp only [Op.equalIn, Sem.run_bind, underlying_run hu, Result.andThen, Sem.run_pure]; rfl, h4⟩
      | func _ _ _ =>
        rcases AV.onFnNul_inv hr n with ⟨_, _, _, ex, h1⟩ | ⟨t1, ex, h1⟩
        · obtain ⟨t2, ey, h2⟩ := AV.onNul_inv h1 n
          obtain ⟨q, h3⟩ := ifB_inv h2 n
          have := nkEq_inv q
          subst ex ey this
          rw [rv_nul hy, nulV]
          cases hx
          exact ⟨_, by simp only [Op.equalIn, Sem.run_bind, underlying_run hu, Result.andThen, Sem.run_pure], h3⟩
        · obtain ⟨q, h2⟩ := ifB_inv h1 n
          have := nkEq_inv q
          subst ex this
          rw [rv_nul hx, nulV]
          rcases AV.onFnNul_inv h2 n with ⟨_, _, _, ey, h3⟩ | ⟨t1, ey, h3⟩
          · subst ey
            cases hy
            exact ⟨_, by simp only [Op.equalIn, Sem.run_bind, underlying_run hu, Result.andThen, Sem.run_pure], h3⟩
          · obtain ⟨q, h4⟩ := ifB_inv h3 n
            have := nkEq_inv q
            subst ey this
            rw [rv_nul hy, nulV]
            exact ⟨_, by simp only [Op.equalIn, Sem.run_bind, underlying_run hu, Result.andThen, Sem.run_pure], h4⟩
      | interface _ =>
        rcases AV.onIfaceNul_inv hr n with ⟨t1, v1, ex, h1⟩ | ⟨t1, ex, h1⟩
        · rcases AV.onIfaceNul_inv h1 n with ⟨t2, v2, ey, h2⟩ | ⟨t2, ey, h2⟩
          · rw [eqN_eq] at h2
            by_cases e : t1 = t2
            · rw [if_pos e] at h2; exact absurd h2 n
            · rw [if_neg e] at h2
              subst ex ey
              cases hx; cases hy
              exact ⟨_, by simp only [Op.equalIn, Sem.run_bind, underlying_run hu, Result.andThen, ne_eq, e, not_false_eq_true, if_true, Sem.run_pure], h2⟩
          · obtain ⟨q, h3⟩ := ifB_inv h2 n
            have := nkEq_inv q
            subst ex ey this
            rw [rv_nul hy, nulV]
            cases hx
            exact ⟨_, by simp only [Op.equalIn, Sem.run_bind, underlying_run hu, Result.andThen, Sem.run_pure], h3⟩
        · obtain ⟨q, h2⟩ := ifB_inv h1 n
          have := nkEq_inv q
          subst ex this
          rw [rv_nul hx, nulV]
          rcases AV.onIfaceNul_inv h2 n with ⟨_, _, ey, h3⟩ | ⟨t1, ey, h3⟩
          · subst ey
            cases hy
            exact ⟨_, by simp only [Op.equalIn, Sem.run_bind, underlying_run hu, Result.andThen, Sem.run_pure], h3⟩
          · obtain ⟨q, h4⟩ := ifB_inv h3 n
            have := nkEq_inv q
            subst ey this
            rw [rv_nul hy, nulV]
            exact ⟨_, by simp only [Op.equalIn, Sem.run_bind, underlying_run hu, Result.andThen, Sem.run_pure], h4⟩
      | struct fs =>
        cases hst : P.stoodInHeld t with
        | true => simp only [hst] at hr; exact absurd hr n
        | false =>
          simp only [hst] at hr
          obtain ⟨a, ex, h1⟩ := AV.onAgg_inv hr n
          obtain ⟨b, ey, h2⟩ := AV.onAgg_inv h1 n
          subst ex ey
          cases hx with
          | @agg _ xs hx =>
          cases hy with
          | @agg _ ys hy =>
          rw [struct_eq hu hst]
          exact eqFields_ok ih n S hx hy fs.toList k h2
      | _ => exact absurd hr n
end

/-! ### Keys -/
section
variable {P : Program} {RT : List Rule} {G : Nat → AV} {ι : Inj} {h : H} {w : World} {β : Type} {s r : β}
theorem same1_ok {x y : AV} {u v : Value} {k : β} (hr : same1 x y k s = r) (n : s ≠ r) (hx : RV ι x u) (hy : RV ι y v) : u = v ∧ k = r := by
  unfold same1 at hr
  cases x with
  | int t a =>
    obtain ⟨t', b, ey, h1⟩ := AV.onInt_inv (hr : y.onInt _ s = r) n
    obtain ⟨h2, h3⟩ := eqN_inv h1 n
    obtain ⟨h4, h5⟩ := ifB_inv h3 n
    rw [eqI_ok, decide_eq_true_iff] at h4
    have := kindN_inj h2
    subst ey this h4
    exact ⟨(rv_int hx).trans (rv_int hy).symm, h5⟩
  | str l c =>
    obtain ⟨m, c', ey, h1⟩ := AV.onStr_inv (hr : y.onStr _ s = r) n
    obtain ⟨h2, h3⟩ := eqN_inv h1 n
    obtain ⟨h4, h5⟩ := eqN_inv h3 n
    subst ey
    obtain ⟨s1, rfl, rfl, rfl⟩ := rv_str hx
    obtain ⟨s2, rfl, rfl, rfl⟩ := rv_str hy
    refine ⟨?_, h5⟩
    have : s1.data.toList = s2.data.toList := enc_inj (by rw [size_eq, size_eq]; exact h2) h4
    congr 1
    cases s1; cases s2
    simp at this
    rw [this]
  | ptr g e i ub =>
    obtain ⟨g', e', i', ub', ey, h1⟩ := AV.onPtr_inv (hr : y.onPtr _ s = r) n
    obtain ⟨rfl, h2⟩ := eqN_inv h1 n
    obtain ⟨rfl, h3⟩ := eqN_inv h2 n
    obtain ⟨rfl, h4⟩ := eqN_inv h3 n
    subst ey
    refine ⟨?_, h4⟩
    cases hx with
    | @ptr _ _ _ _ o l hl hlo hhi hio =>
    cases hy with
    | @ptr _ _ _ _ o' l' hl' hlo' hhi' hio' =>
    rw [hl] at hl'; cases hl'
    have : o = o' := by omega
    rw [this]
  | nul t =>
    obtain ⟨t', ey, h1⟩ := AV.onNul_inv (hr : y.onNul _ s = r) n
    obtain ⟨h2, h3⟩ := ifB_inv h1 n
    have := nkEq_inv h2
    subst ey this
    exact ⟨(rv_nul hx).trans (rv_nul hy).symm, h3⟩
  | bool a =>
    obtain ⟨b, ey, h1⟩ := AV.onBool_inv (hr : y.onBool _ s = r) n
    subst ey
    rw [rv_bool hx, rv_bool hy]
    cases a <;> cases b <;> first | exact ⟨rfl, h1⟩ | exact absurd h1 n
  | _ => exact absurd hr n
theorem sameL_ok (n : s ≠ r) : ∀ {a b : List AV} {us vs : List Value} {k : β}, sameL a b k s = r → RVL ι a us → RVL ι b vs → us = vs ∧ k = r
  | [], [], _, _, k, hr, .nil, .nil => ⟨rfl, hr⟩
  | [], _ :: _, _, _, _, hr, _, _ => absurd hr n
  | _ :: _, [], _, _, _, hr, _, _ => absurd hr n
  | x :: a, y :: b, _, _, k, hr, .cons h1 h2, .cons h3 h4 => by
    obtain ⟨e1, hr2⟩ := same1_ok (hr : same1 x y (sameL a b k s) s = r) n h1 h3
    obtain ⟨e2, hr3⟩ := sameL_ok n hr2 h2 h4
    exact ⟨by rw [e1, e2], hr3⟩
theorem sameA_ok {x y : AV} {u v : Value} {k : β} (hr : sameA x y k s = r) (n : s ≠ r) (hx : RV ι x u) (hy : RV ι y v) : u = v ∧ k = r := by
  cases x with
  | agg a =>
    have h0 : y.onAgg (fun b => sameL a b k s) s = r := hr
    obtain ⟨b, ey, h1⟩ := AV.onAgg_inv h0 n
    subst ey
    cases hx with
    | @agg _ xs hx =>
    cases hy with
    | @agg _ ys hy =>
    obtain ⟨e, h2⟩ := sameL_ok n h1 hx hy
    exact ⟨by rw [Array.ext' e], h2⟩
  | int a b => exact same1_ok (x := .int a b) hr n hx hy
  | bool a => exact same1_ok (x := .bool a) hr n hx hy
  | str a b => exact same1_ok (x := .str a b) hr n hx hy
  | ptr a b c d => exact same1_ok (x := .ptr a b c d) hr n hx hy
  | nul a => exact same1_ok (x := .nul a) hr n hx hy
  | sl => exact absurd hr n
  | map => exact absurd hr n
  | fn => exact absurd hr n
  | yield => exact absurd hr n
  | iface => exact absurd hr n
  | tup => exact absurd hr n
  | raw => exact absurd hr n
  | sym => exact absurd hr n
  | sx => exact absurd hr n
theorem key1_ok {t : TypeId} {v : AV} {u : Value} {k : β} (hr : (key1 ⟨P, G, RT⟩ t).run β v k s = r) (n : s ≠ r) (hv : RV ι v u) (e : Bool) (m : Nat) : (Instr.checkKey e (m + 1) t u).run P w = .ok () w ∧ k = r := by
  unfold key1 at hr
  cases hu : P.underlying t with
  | none => simp only [hu] at hr; exact absurd hr n
  | some q =>
    simp only [hu] at hr
    cases q with
    | bool =>
      obtain ⟨b, ev, h1⟩ := AV.onBool_inv hr n
      subst ev; rw [rv_bool hv]
      exact ⟨by simp only [Instr.checkKey, Sem.run_bind, underlying_run hu, Result.andThen]; rfl, h1⟩
    | int _ =>
      obtain ⟨_, b, ev, h1⟩ := AV.onInt_inv hr n
      subst ev; rw [rv_int hv]
      exact ⟨by simp only [Instr.checkKey, Sem.run_bind, underlying_run hu, Result.andThen]; rfl, h1⟩
    | string =>
      obtain ⟨_, b, ev, h1⟩ := AV.onStr_inv hr n
      subst ev
      obtain ⟨s1, rfl, _⟩ := rv_str hv
      exact ⟨by simp only [Instr.checkKey, Sem.run_bind, underlying_run hu, Result.andThen]; rfl, h1⟩
    | pointer _ =>
      rcases AV.onPtrNul_inv hr n with ⟨_, _, _, _, ev, h1⟩ | ⟨t1, ev, h1⟩
      · subst ev; cases hv
        exact ⟨by simp only [Instr.checkKey, Sem.run_bind, underlying_run hu, Result.andThen]; rfl, h1⟩
      · obtain ⟨h2, h3⟩ := ifB_inv h1 n
        have := nkEq_inv h2
        subst ev this; rw [rv_nul hv, nulV]
        exact ⟨by simp only [Instr.checkKey, Sem.run_bind, underlying_run hu, Result.andThen]; rfl, h3⟩
    | _ => exact absurd hr n
theorem keyFields_ok (n : s ≠ r) {a : List AV} {cs : Array Value} (ha : RVL ι a cs.toList) (e : Bool) (m : Nat) {B : Field → PUnit → Sem (ForInStep PUnit)}
    (hB1 : ∀ f, f.name = "_" → (B f ⟨⟩).run P w = .ok (.yield ⟨⟩) w) (hB2 : ∀ f x, ¬ f.name = "_" → (part f.type cs f.offset).run P w = .ok x w → (Instr.checkKey e (m + 1) f.type x).run P w = .ok () w → (B f ⟨⟩).run P w = .ok (.yield ⟨⟩) w) : ∀ (fs : List Field) {k : β}, keyFields ⟨P, G, RT⟩ fs β a k s = r →
    (forIn fs PUnit.unit B).run P w = .ok PUnit.unit w ∧ k = r
  | [], k, hr => ⟨by simp [Sem.run_pure], hr⟩
  | f :: l, k, hr => by
    have hr' : (match f.name with
      | "_" => keyFields ⟨P, G, RT⟩ l β a k s
      | _ => partA ((Ty.mk P G RT).aggB f.type) f.offset ((Ty.mk P G RT).size f.type) a (fun x => (key1 ⟨P, G, RT⟩ f.type).run β x (keyFields ⟨P, G, RT⟩ l β a k s) s) s) = r := hr
    rw [List.forIn_cons]
    simp only [Sem.run_bind]
    by_cases hf : f.name = "_"
    · simp only [hf] at hr'
      obtain ⟨h1, h2⟩ := keyFields_ok n ha e m hB1 hB2 l hr'
      rw [hB1 f hf]
      exact ⟨h1, h2⟩
    · have hr2 : partA ((Ty.mk P G RT).aggB f.type) f.offset ((Ty.mk P G RT).size f.type) a (fun x => (key1 ⟨P, G, RT⟩ f.type).run β x (keyFields ⟨P, G, RT⟩ l β a k s) s) s = r := by
        split at hr'
        · rename_i hh; exact absurd hh hf
        · exact hr'
      obtain ⟨x, xv, p1, p2, h1⟩ := partA_ok (w := w) hr2 n ha
      obtain ⟨p3, h2⟩ := key1_ok (w := w) h1 n p2 e m
      obtain ⟨h3, h4⟩ := keyFields_ok n ha e m hB1 hB2 l h2
      rw [hB2 f xv hf p1 p3]
      exact ⟨h3, h4⟩
theorem keyC_ok {t : TypeId} {v : AV} {u : Value} {k : β} (hr : (keyC ⟨P, G, RT⟩ t).run β v k s = r) (n : s ≠ r) (hv : RV ι v u) (e : Bool) (m : Nat) : (Instr.checkKey e (m + 2) t u).run P w = .ok () w ∧ k = r := by
  unfold keyC at hr
  cases hu : P.underlying t with
  | none => simp only [hu] at hr; exact key1_ok hr n hv e (m + 1)
  | some q =>
    simp only [hu] at hr
    cases q with
    | struct fs =>
      obtain ⟨a, ev, h1⟩ := AV.onAgg_inv hr n
      subst ev
      cases hv with
      | @agg _ cs hv =>
      rw [Instr.checkKey]
      simp only [Sem.run_bind, underlying_run hu, Result.andThen]
      rw [← Array.forIn_toList]
      have b1 : ∀ f : Field, f.name = "_" → ((do
          if f.name ≠ "_" then
            let c ← part f.type cs f.offset
            Instr.checkKey e (m + 1) f.type c
          return ForInStep.yield ⟨⟩) : Sem (ForInStep PUnit)).run P w = .ok (.yield ⟨⟩) w := fun f hf => by
        simp only [hf, ne_eq, not_true, if_false, Sem.run_pure]
      have b2 : ∀ (f : Field) x, ¬ f.name = "_" → (part f.type cs f.offset).run P w = .ok x w → (Instr.checkKey e (m + 1) f.type x).run P w = .ok () w → ((do
          if f.name ≠ "_" then
            let c ← part f.type cs f.offset
            Instr.checkKey e (m + 1) f.type c
          return ForInStep.yield ⟨⟩) : Sem (ForInStep PUnit)).run P w = .ok (.yield ⟨⟩) w := fun f x hf h2 h3 => by
        simp only [ne_eq, hf, not_false_eq_true, if_true, Sem.run_bind, h2, h3, Result.andThen, Sem.run_pure]
      obtain ⟨e1, e2⟩ := keyFields_ok (P := P) (w := w) (G := G) n hv e m (B := fun f _ => do
          if f.name ≠ "_" then
            let c ← part f.type cs f.offset
            Instr.checkKey e (m + 1) f.type c
          return ForInStep.yield ⟨⟩) b1 b2 fs.toList h1
      refine ⟨?_, e2⟩
      rw [show ((_ : Sem PUnit).run P w) = Result.ok PUnit.unit w from e1]
      rfl
    | _ => exact key1_ok hr n hv e (m + 1)
/-- What a search comes to. -/
theorem findAsking_ok {kt : TypeId} {key : AV} {kv : Value} {found : Nat → ME → β} {none_ : β} (n : s ≠ r) (S : Sim ι h w) (hk : RV ι key kv) : ∀ (es : List ME) (ES : List MapEntry) (i : Nat), MEs ι es ES → findME (eqT ⟨P, G, RT⟩ 20 kt) es key h found none_ s i = r →
    ((Instr.findAsking kt kv ES i).run P w = .ok none w ∧ none_ = r) ∨ (∃ j e x, (Instr.findAsking kt kv ES i).run P w = .ok (some (i + j, x.val)) w ∧ es[j]? = some e ∧ ES[j]? = some x ∧ RV ι e.v x.val ∧ RV ι e.k x.key ∧ e.born = x.born ∧ found (i + j) e = r)
  | _, _, _, .nil, hr => .inl ⟨rfl, hr⟩
  | e :: es, x :: ES, i, .cons h1 h2 h3 h4, hr => by
    obtain ⟨b, hb, hr2⟩ := eqT_ok 20 Op.maxDepth (by decide) kt key e.k kv x.key _ (hr : (eqT ⟨P, G, RT⟩ 20 kt).run β key e.k h (fun b => ifB b (found i e) (forceN (Nat.succ i) (findME (eqT ⟨P, G, RT⟩ 20 kt) es key h found none_ s))) s = r) n S hk h1
    cases b with
    | true => exact .inr ⟨0, e, x, by simp only [Instr.findAsking, Sem.run_bind, Op.equal, hb, Result.andThen, if_true, Sem.run_pure, Nat.add_zero], rfl, rfl, h2, h1, h3, hr2⟩
    | false =>
      rw [ifB_eq, if_neg (by decide), forceN_eq] at hr2
      have hgo : (Instr.findAsking kt kv (x :: ES) i).run P w = (Instr.findAsking kt kv ES (i + 1)).run P w := by
        simp only [Instr.findAsking, Sem.run_bind, Op.equal, hb, Result.andThen, Bool.false_eq_true, if_false]
      rw [hgo]
      rcases findAsking_ok n S hk es ES (i + 1) h4 hr2 with ⟨q1, q2⟩ | ⟨j, e', x', q1, q2, q3, q4, q5, q6, q7⟩
      · exact .inl ⟨q1, q2⟩
      · exact .inr ⟨j + 1, e', x', by rw [q1]; congr 3; omega, by simpa using q2, by simpa using q3, q4, q5, q6, by rw [show i + (j + 1) = i + 1 + j by omega]; exact q7⟩
/-- A search by what is told at once tells what a search by asking tells. -/
theorem equal_at {kt : TypeId} {x y : Value} {b : Bool} (h : ∀ d, (Op.equalIn (d + 1) kt x y).run P w = .ok b w) : (Op.equal kt x y).run P w = .ok b w := by
  unfold Op.equal
  have : ∃ d, Op.maxDepth = d + 1 := ⟨Op.maxDepth - 1, by decide⟩
  obtain ⟨d, e⟩ := this
  rw [e]; exact h d
theorem findNow_ok {kt : TypeId} {q : TypeDesc} (hu : P.underlying kt = some q) {kv : Value} : ∀ (ES : List MapEntry) (i : Nat) {res : Option (Nat × Value)}, (Instr.findAsking kt kv ES i).run P w = .ok res w →
    Instr.findNow q kv ES i = some res ∨ Instr.findNow q kv ES i = none := by
  intro ES
  induction ES with
  | nil => intro i res hr; left; simp only [Instr.findAsking, Sem.run_pure] at hr; cases hr; rfl
  | cons x ES ih =>
    intro i res hr
    simp only [Instr.findNow]
    have key : ∀ b, Instr.sameNow q kv x.key = some b → (Op.equal kt kv x.key).run P w = .ok b w := by
      intro b hb
      cases q with
      | int kk =>
        cases kv <;> first | cases hb | skip
        rename_i k1 a1
        cases hx : x.key <;> rw [hx] at hb <;> first | cases hb | skip
        rename_i k2 a2
        simp only [Instr.sameNow] at hb
        split at hb
        · rename_i hk; cases hb
          refine equal_at fun d => ?_
          simp only [Op.equalIn, Sem.run_bind, underlying_run hu, Result.andThen, hk, if_true, Sem.run_pure]
        · cases hb
      | string =>
        cases kv <;> first | cases hb | skip
        cases hx : x.key <;> rw [hx] at hb <;> first | cases hb | skip
        refine equal_at fun d => ?_
        simp only [Op.equalIn, Sem.run_bind, underlying_run hu, Result.andThen, Sem.run_pure]
      | bool =>
        cases kv <;> first | cases hb | skip
        cases hx : x.key <;> rw [hx] at hb <;> first | cases hb | skip
        refine equal_at fun d => ?_
        simp only [Op.equalIn, Sem.run_bind, underlying_run hu, Result.andThen, Sem.run_pure]
      | _ => cases hb
    cases hs : Instr.sameNow q kv x.key with
    | none => exact .inr rfl
    | some b =>
      have hb := key b hs
      simp only [Instr.findAsking, Sem.run_bind, hb, Result.andThen] at hr
      cases b with
      | true => simp only [if_true, Sem.run_pure] at hr; cases hr; exact .inl rfl
      | false => simp only [Bool.false_eq_true, if_false] at hr; exact ih (i + 1) hr
theorem findKey_run {kt : TypeId} {q : TypeDesc} (hu : P.underlying kt = some q) {kv : Value} {ES : List MapEntry} {res : Option (Nat × Value)} (h : (Instr.findAsking kt kv ES).run P w = .ok res w) : (Instr.findKey kt kv ES).run P w = .ok res w := by
  unfold Instr.findKey
  simp only [Sem.run_bind, underlying_run hu, Result.andThen]
  rcases findNow_ok hu ES 0 h with e | e
  · rw [e]; rfl
  · rw [e]; exact h
end
/-! ### Maps -/
section
variable {P : Program} {RT : List Rule} {ι : Inj} {h : H} {w : World} {β : Type} {s r : β} {G : Nat → AV}
theorem Sim.drawn (S : Sim ι h w) {w' : World} (e : w'.heap = w.heap) : Sim ι h w' :=
  ⟨S.nx, S.beyond, S.inj, fun g s l hl => by rw [e]; exact S.inw g s l hl, fun g hg => objOk_keep (S.obj g hg) (Inj.le_refl ι) (fun _ => rfl) (fun _ _ _ => by rw [e])⟩
theorem Grows.drawn {w' : World} (e : w'.heap = w.heap) (hx : SameExt w w') : Grows ι h w ι h w' := ⟨Inj.le_refl ι, Nat.le_refl _, by rw [e]; exact Nat.le_refl _, fun _ _ _ h1 h2 => (by rw [h1] at h2; cases h2), fun _ _ h => h, fun _ _ _ => by rw [e], fun _ _ h => ⟨h, fun _ => rfl⟩, hx⟩
theorem Sim.map_ (S : Sim ι h w) {g : Nat} {l : Loc} (hl : ι g 0 = some l) {es : List ME} {cl : Nat} (ho : h.obj g = .map es cl) : (∀ s, 0 < s → ι g s = none) ∧ ∃ X, w.heap[l.b]? = some (.map X cl) ∧ MEs ι es X.toList := by
  have := S.obj g (S.small hl)
  rw [ho] at this
  obtain ⟨h1, l', h2, X, h3, h4⟩ := this
  rw [hl] at h2; cases h2
  exact ⟨h1, X, h3, h4⟩
theorem getObj_map {b : Nat} {X : Array MapEntry} {cl : Nat} (hb : w.heap[b]? = some (.map X cl)) : (getObj b).run P w = .ok (.map X cl) w := by
  simp only [getObj, Sem.run, hb]
theorem setObj_map {b : Nat} {X : Array MapEntry} {cl : Nat} (hb : w.heap[b]? = some (.map X cl)) (o : Obj) : (setObj b o).run P w = .ok () { w with heap := w.heap.setIfInBounds b o } := by
  simp only [setObj, Sem.run, hb]
/-- A map is laid anew. -/
theorem Sim.setMap (S : Sim ι h w) {g : Nat} {l : Loc} (hl : ι g 0 = some l) {es : List ME} {cl : Nat} (ho : h.obj g = .map es cl) {es' : List ME} {cl' : Nat} {X' : Array MapEntry} (hm : MEs ι es' X'.toList) {w' : World} (hw : w'.heap = w.heap.setIfInBounds l.b (.map X' cl')) (hx : SameExt w w') :
    Sim ι (h.putv g (.map es' cl')) w' ∧ Grows ι h w ι (h.putv g (.map es' cl')) w' := by
  obtain ⟨h1, X, h3, h4⟩ := S.map_ hl ho
  have hlt := S.inw _ _ _ hl
  have hat : ∀ b, w'.heap[b]? = if l.b = b then some (.map X' cl') else w.heap[b]? := fun b => by rw [hw]; exact heap_set hlt b
  refine S.put (ι' := ι) (S.small hl) (fun _ _ _ => rfl) (Inj.le_refl ι) (fun s l e n => by rw [e] at n; cases n) (fun s s' a b c d => absurd c a) (by rw [hw]; simp) (fun b hb' hn => ?_) hx (by rw [ho]; trivial) ?_
  · rw [hat, if_neg (hn 0 l hl)]
  · exact ⟨h1, l, hl, X', by rw [hat, if_pos rfl], hm⟩
theorem maxDepth_eq : ∃ m, (10000 : Nat) = m + 2 := ⟨9998, rfl⟩
theorem keyC_run {t : TypeId} {v : AV} {u : Value} {k : β} (hr : (keyC ⟨P, G, RT⟩ t).run β v k s = r) (n : s ≠ r) (hv : RV ι v u) (e : Bool) : (Instr.checkKey e 10000 t u).run P w = .ok () w ∧ k = r := keyC_ok hr n hv e 9998
theorem keyC_known {t : TypeId} {v : AV} {k : β} (hr : (keyC ⟨P, G, RT⟩ t).run β v k s = r) (n : s ≠ r) : ∃ q, P.underlying t = some q := by
  unfold keyC key1 at hr
  cases hu : P.underlying t with
  | none => simp only [hu] at hr; exact absurd hr n
  | some q => exact ⟨q, rfl⟩
theorem lookup_ok {t kt e : TypeId} {i : TypeInfo} {z : Value} {ok : Bool} (ht : P.underlying t = some (.map kt e)) (hi : P.info? e = some i) (hz : i.zero = some z) {m key : AV} {mv kv : Value} {k : AV → β}
    (hr : lookupA (keyC ⟨P, G, RT⟩ kt) (eqT ⟨P, G, RT⟩ 20 kt) (AV.ofV z) ok m key h k s = r) (n : s ≠ r) (S : Sim ι h w) (hm : RV ι m mv) (hk : RV ι key kv) :
    ∃ u v, (Instr.lookup t mv kv ok).run P w = .ok u w ∧ RV ι v u ∧ k v = r := by
  unfold lookupA at hr
  have hzv := ofV_rv ι z
  have none_case : (ifB ok (k (.tup [AV.ofV z, .bool false])) (k (AV.ofV z)) = r) →
      ∃ v, RV ι v (if ok then .tuple #[z, .bool false] else z) ∧ k v = r := by
    intro h3
    rw [ifB_eq] at h3
    refine ⟨if ok then .tup [AV.ofV z, .bool false] else AV.ofV z, ?_, ?_⟩
    · split
      · exact .tup (.cons hzv (.cons (.bool false) .nil))
      · exact hzv
    · split <;> rename_i hh <;> simp only [hh, if_true, if_false, Bool.false_eq_true] at h3 <;> exact h3
  rcases AV.onMapNul_inv hr n with ⟨g, ex, hr⟩ | ⟨t', ex, hr⟩
  · subst ex
    obtain ⟨es, cl, ho, hr⟩ := onMap_inv hr n
    cases hm with
    | @map _ l hl =>
    obtain ⟨_, X, h3, h4⟩ := S.map_ hl ho
    obtain ⟨q, hq⟩ := keyC_known hr n
    have hkey : ∀ b, (Instr.checkKey b 10000 kt kv).run P w = .ok () w := fun b => (keyC_run (w := w) hr n hk b).1
    obtain ⟨_, hr⟩ := keyC_run (w := w) hr n hk true
    rcases findAsking_ok n S hk es X.toList 0 h4 hr with ⟨q1, q2⟩ | ⟨j, e', x, q1, q2, q3, q4, q5, q6, q7⟩
    · obtain ⟨v, b, c⟩ := none_case q2
      refine ⟨_, v, ?_, b, c⟩
      simp only [Instr.lookup, Sem.run_bind, underlying_run ht, Result.andThen, getObj_map h3, Sem.run_pure, hkey, findKey_run hq q1, zeroValue_run hi hz]
    · have q1' := findKey_run hq q1
      rw [ifB_eq] at q7
      refine ⟨if ok then .tuple #[x.val, .bool true] else x.val, if ok then .tup [e'.v, .bool true] else e'.v, ?_, ?_, ?_⟩
      · simp only [Instr.lookup, Sem.run_bind, underlying_run ht, Result.andThen, getObj_map h3, Sem.run_pure, hkey, q1']
      · split
        · exact .tup (.cons q4 (.cons (.bool true) .nil))
        · exact q4
      · split <;> rename_i hh <;> simp only [hh, if_true, if_false, Bool.false_eq_true] at q7 <;> exact q7
  · subst ex
    obtain ⟨h1, hr⟩ := ifB_inv hr n
    have := nkEq_inv h1
    subst this
    have e2 := rv_nul hm
    subst e2
    obtain ⟨q, hq⟩ := keyC_known hr n
    have hkey : ∀ b, (Instr.checkKey b 10000 kt kv).run P w = .ok () w := fun b => (keyC_run (w := w) hr n hk b).1
    obtain ⟨_, hr⟩ := keyC_run (w := w) hr n hk true
    obtain ⟨v, b, c⟩ := none_case hr
    refine ⟨_, v, ?_, b, c⟩
    have hf : (Instr.findKey kt kv []).run P w = .ok none w := findKey_run hq (by simp only [Instr.findAsking, Sem.run_pure])
    simp only [Instr.lookup, Sem.run_bind, underlying_run ht, Result.andThen, nulV, Sem.run_pure, hkey, hf, zeroValue_run hi hz]
theorem setME_eq (e : ME) : ∀ (es : List ME) (i : Nat) (k : List ME → β), setME es e k i = k (es.modify i fun _ => e)
  | [], _, _ => by cases ‹Nat› <;> rfl
  | x :: l, 0, k => rfl
  | x :: l, i + 1, k => setME_eq e l i fun l => k (x :: l)
theorem delME_eq : ∀ (es : List ME) (i : Nat) (k : List ME → β), delME es k i = k (es.eraseIdx i)
  | [], _, _ => by cases ‹Nat› <;> rfl
  | x :: l, 0, k => rfl
  | x :: l, i + 1, k => delME_eq l i fun l => k (x :: l)
theorem pushME_eq (e : ME) : ∀ (es : List ME) (k : List ME → β), pushME es e k = k (es ++ [e])
  | [], _ => rfl
  | x :: l, k => pushME_eq e l fun l => k (x :: l)
theorem MEs.push {es : List ME} {X : List MapEntry} (h1 : MEs ι es X) {e : ME} {x : MapEntry} (hk : RV ι e.k x.key) (hv : RV ι e.v x.val) (hb : e.born = x.born) : MEs ι (es ++ [e]) (X ++ [x]) := by
  induction h1 with
  | nil => exact .cons hk hv hb .nil
  | cons a b c _ ih => exact .cons a b c ih
theorem MEs.erase {es : List ME} {X : List MapEntry} (h1 : MEs ι es X) : ∀ i, MEs ι (es.eraseIdx i) (X.eraseIdx i) := by
  induction h1 with
  | nil => intro i; exact .nil
  | cons a b c d ih =>
    intro i
    cases i with
    | zero => exact d
    | succ i => exact .cons a b c (ih i)
theorem MEs.modify {es : List ME} {X : List MapEntry} (h1 : MEs ι es X) {e : ME} {f : MapEntry → MapEntry} : ∀ (i : Nat), (∀ x, X[i]? = some x → RV ι e.k (f x).key ∧ RV ι e.v (f x).val ∧ e.born = (f x).born) → MEs ι (es.modify i fun _ => e) (X.modify i f) := by
  induction h1 with
  | nil => intro i _; rw [List.modify_nil, List.modify_nil]; exact .nil
  | cons a b c d ih =>
    intro i hx
    cases i with
    | zero => obtain ⟨x1, x2, x3⟩ := hx _ rfl; exact .cons x1 x2 x3 d
    | succ i => exact .cons a b c (ih i fun x h => hx x (by simpa using h))
theorem keyStays_run (x : Value) : ∃ w', (Instr.keyThatStays x x).run P w = .ok x w' ∧ w'.heap = w.heap ∧ SameExt w w' := by
  unfold Instr.keyThatStays
  split
  · exact ⟨w, by rw [Sem.run_pure], rfl, rfl, rfl, rfl⟩
  · simp only [Sem.run_bind, run_choose]
    by_cases hf : (Question.extern "map.whichKeyStays" 2).forced = true
    · exact ⟨w, by simp only [hf, if_true, Result.andThen, ite_self, Sem.run_pure], rfl, rfl, rfl, rfl⟩
    · exact ⟨{ w with drawn := w.drawn + 1 }, by simp only [hf, if_false, Bool.false_eq_true, Result.andThen, ite_self, Sem.run_pure], rfl, rfl, rfl, rfl⟩
theorem mapSet_ok {t kt e : TypeId} (ht : P.underlying t = some (.map kt e)) {m key v : AV} {mv kv vv : Value} {k : H → β}
    (hr : mapSet (keyC ⟨P, G, RT⟩ kt) (eqT ⟨P, G, RT⟩ 20 kt) m key v h k s = r) (n : s ≠ r) (S : Sim ι h w) (hm : RV ι m mv) (hk : RV ι key kv) (hv : RV ι v vv) :
    ∃ w' h', (Instr.mapUpdate t mv kv vv).run P w = .ok () w' ∧ Sim ι h' w' ∧ Grows ι h w ι h' w' ∧ k h' = r := by
  unfold mapSet at hr
  obtain ⟨g, ex, hr⟩ := AV.onMap_inv hr n
  subst ex
  obtain ⟨es, cl, ho, hr⟩ := onMap_inv hr n
  cases hm with
  | @map _ l hl =>
  obtain ⟨_, X, h3, h4⟩ := S.map_ hl ho
  obtain ⟨q, hq⟩ := keyC_known hr n
  obtain ⟨hkey, hr⟩ := keyC_run (w := w) hr n hk false
  rcases findAsking_ok n S hk es X.toList 0 h4 hr with ⟨q1, q2⟩ | ⟨j, e', x, q1, q2, q3, q4, q5, q6, q7⟩
  · rw [pushME_eq, forceN_eq, H.put_eq] at q2
    obtain ⟨a, b⟩ := S.setMap hl ho (es' := es ++ [⟨key, v, cl⟩]) (cl' := cl + 1) (X' := X.push { key := kv, val := vv, born := cl }) (by simpa using h4.push (e := ⟨key, v, cl⟩) (x := { key := kv, val := vv, born := cl }) hk hv rfl) (w' := { w with heap := w.heap.setIfInBounds l.b (.map (X.push { key := kv, val := vv, born := cl }) (cl + 1)) }) rfl ⟨rfl, rfl, rfl⟩
    refine ⟨_, _, ?_, a, b, q2⟩
    simp only [Instr.mapUpdate, Sem.run_bind, underlying_run ht, Result.andThen, getObj_map h3, hkey, findKey_run hq q1, setObj_map h3]
  · rw [Nat.zero_add] at q7 q1
    obtain ⟨e1, q7⟩ := sameA_ok q7 n hk q5
    rw [setME_eq, H.put_eq] at q7
    have hx : X[j]? = some x := by simpa using q3
    obtain ⟨w1, k1, k2, k3⟩ := keyStays_run (P := P) (w := w) kv
    have h3' : w1.heap[l.b]? = some (.map X cl) := by rw [k2]; exact h3
    obtain ⟨a, b⟩ := S.setMap hl ho (es' := es.modify j fun _ => ⟨key, v, e'.born⟩) (cl' := cl) (X' := X.modify j fun e => { e with key := kv, val := vv }) (by
      rw [Array.toList_modify]
      refine h4.modify j fun y hy => ?_
      rw [q3] at hy; cases hy
      exact ⟨hk, hv, q6⟩) (w' := { w1 with heap := w1.heap.setIfInBounds l.b (.map (X.modify j fun e => { e with key := kv, val := vv }) cl) }) (by rw [k2]) k3
    refine ⟨_, _, ?_, a, b, q7⟩
    have hold : ((X[j]?).map (·.key)).getD kv = kv := by rw [hx]; exact e1.symm
    simp only [Instr.mapUpdate, Sem.run_bind, underlying_run ht, Result.andThen, getObj_map h3, hkey, findKey_run hq q1, hold, k1, setObj_map h3']
theorem mapDel_ok {t kt e : TypeId} (ht : P.underlying t = some (.map kt e)) {ts : Array TypeId} (hts : ts[0]? = some t) (ty : TypeId) {m key : AV} {mv kv : Value} {k : H → β}
    (hr : mapDel (keyC ⟨P, G, RT⟩ kt) (eqT ⟨P, G, RT⟩ 20 kt) m key h k s = r) (n : s ≠ r) (S : Sim ι h w) (hm : RV ι m mv) (hk : RV ι key kv) {args : Array Value} (ha0 : args[0]? = some mv) (ha1 : args[1]? = some kv) :
    ∃ w' h', (Builtin.delete_ ts ty args).run P w = .ok (.tuple #[]) w' ∧ Sim ι h' w' ∧ Grows ι h w ι h' w' ∧ k h' = r := by
  unfold mapDel at hr
  obtain ⟨g, ex, hr⟩ := AV.onMap_inv hr n
  subst ex
  obtain ⟨es, cl, ho, hr⟩ := onMap_inv hr n
  cases hm with
  | @map _ l hl =>
  obtain ⟨_, X, h3, h4⟩ := S.map_ hl ho
  obtain ⟨q, hq⟩ := keyC_known hr n
  have hkey : ∀ b, (Instr.checkKey b 10000 kt kv).run P w = .ok () w := fun b => (keyC_run (w := w) hr n hk b).1
  obtain ⟨_, hr⟩ := keyC_run (w := w) hr n hk false
  have hpre : ∀ {res w'}, (match res with
    | some (i, _) => setObj l.b (.map (X.eraseIdxIfInBounds i) cl)
    | none => setObj l.b (.map X cl)).run P w = .ok () w' → (Instr.findAsking kt kv X.toList 0).run P w = .ok res w → (Builtin.delete_ ts ty args).run P w = .ok (.tuple #[]) w' := by
    intro res w' h1 h2
    simp only [Builtin.delete_, hts, ha0, ha1, Sem.run_bind, underlying_run ht, Result.andThen, getObj_map h3, hkey, findKey_run hq h2]
    rcases res with _ | ⟨i, x⟩ <;> simp only at h1 ⊢ <;> simp only [Sem.run_bind, h1, Result.andThen, Sem.run_pure]
  rcases findAsking_ok n S hk es X.toList 0 h4 hr with ⟨q1, q2⟩ | ⟨j, e', x, q1, q2, q3, q4, q5, q6, q7⟩
  · have hh : w.heap.setIfInBounds l.b (.map X cl) = w.heap := by
      apply Array.ext
      · simp
      · intro k h1 h2
        rw [Array.getElem_setIfInBounds (hj := h2)]
        split
        · rename_i e; subst e
          rw [Array.getElem?_eq_getElem h2] at h3; exact (Option.some.inj h3).symm
        · rfl
    refine ⟨{ w with heap := w.heap.setIfInBounds l.b (.map X cl) }, h, hpre (res := none) (setObj_map h3 _) q1, S.drawn hh, Grows.drawn hh ⟨rfl, rfl, rfl⟩, q2⟩
  · rw [Nat.zero_add] at q7 q1
    rw [delME_eq, H.put_eq] at q7
    obtain ⟨a, b⟩ := S.setMap hl ho (es' := es.eraseIdx j) (cl' := cl) (X' := X.eraseIdxIfInBounds j) (by
      rw [Array.toList_eraseIdxIfInBounds]; exact h4.erase j) (w' := { w with heap := w.heap.setIfInBounds l.b (.map (X.eraseIdxIfInBounds j) cl) }) rfl ⟨rfl, rfl, rfl⟩
    exact ⟨_, _, hpre (res := some (j, x.val)) (setObj_map h3 _) q1, a, b, q7⟩
end
/-! ### Rows -/
section
variable {P : Program} {RT : List Rule} {ι : Inj} {h : H} {w : World} {β : Type} {s r : β} {G : Nat → AV}
theorem one_cells {u : Value} (ho : rawOne u = true) : u.cells = #[u] := by cases u <;> first | rfl | cases ho
theorem cellsK_ok {v : AV} {u : Value} {k : List AV → β} (hr : v.cellsK k s = r) (n : s ≠ r) (hv : RV ι v u) : ∃ l, RVL ι l u.cells.toList ∧ k l = r := by
  have one : ∀ {v' : AV} {u' : Value}, RV ι v' u' → u'.cells = #[u'] → k [v'] = r → ∃ l, RVL ι l u'.cells.toList ∧ k l = r := fun h1 h2 h3 => ⟨_, by rw [h2]; exact .cons h1 .nil, h3⟩
  cases hv with
  | agg hl => exact ⟨_, hl, hr⟩
  | tup hl => exact absurd hr n
  | raw u =>
    have h0 : Bool.rec (motive := fun _ => β) s (k [.raw u]) (rawOne u) = r := hr
    cases ho : rawOne u with
    | false => rw [ho] at h0; exact absurd h0 n
    | true =>
      rw [ho] at h0
      refine one (.raw u) ?_ h0
      cases u <;> first | rfl | cases ho
  | int a b => exact one (.int a b) rfl hr
  | bool a => exact one (.bool a) rfl hr
  | str a => exact one (.str a) rfl hr
  | ptr a b c d e => exact one (.ptr a b c d e) rfl hr
  | sl a b c d e f g i => exact one (.sl a b c d e f g i) rfl hr
  | nulp => exact one .nulp rfl hr
  | nuls => exact one .nuls rfl hr
  | nulm => exact one .nulm rfl hr
  | nulf => exact one .nulf rfl hr
  | nuli => exact one .nuli rfl hr
  | map a => exact one (.map a) rfl hr
  | fn a b => exact one (.fn a b) rfl hr
  | yield a => exact one (.yield a) rfl hr
  | iface a => exact one (.iface a) rfl hr
  | sym i d lo hi a b => exact one (.sym i d lo hi a b) rfl hr
  | any _ _ => exact absurd hr n
  | sx1 _ ho => exact one (.sx1 _ ho) (one_cells ho) hr
  | sx2 h1 ho => exact one (.sx2 h1 ho) (one_cells ho) hr
theorem overlay_eq : ∀ (vs l : List AV), vs.length ≤ l.length → overlay vs l = vs ++ l.drop vs.length
  | [], l, _ => rfl
  | v :: vs, [], h => by simp at h
  | v :: vs, x :: l, h => by
    show v :: overlay vs l = _
    rw [overlay_eq vs l (by simpa using h)]; rfl
theorem splice_eq (vs : List AV) : ∀ (l : List AV) (i : Nat), i + vs.length ≤ l.length → splice vs l i = l.take i ++ vs ++ l.drop (i + vs.length)
  | [], i, h => by
    have : vs = [] := by cases vs with | nil => rfl | cons _ _ => simp at h
    subst this
    cases i <;> rfl
  | x :: l, 0, h => by
    show overlay vs (x :: l) = _
    rw [overlay_eq _ _ (by simpa using h)]; simp
  | x :: l, i + 1, h => by
    show x :: splice vs l i = _
    rw [splice_eq vs l i (by simp at h; omega), Nat.add_right_comm]; rfl
theorem putL_list (us : List Value) (o : Nat) (C : Array Value) (h : o + us.length ≤ C.size) : (putL us o C).toList = C.toList.take o ++ us ++ C.toList.drop (o + us.length) := by
  apply List.ext_getElem?
  intro j
  have h1 := putL_get us o C j h
  rw [Array.getElem?_toList, h1]
  have hs : C.toList.length = C.size := Array.length_toList
  by_cases h2 : j < o
  · rw [if_neg (by omega), List.append_assoc, List.getElem?_append_left (by rw [List.length_take]; omega), List.getElem?_take, if_pos h2, Array.getElem?_toList]
  · by_cases h3 : j < o + us.length
    · rw [if_pos (by omega), List.getElem?_append_left (by rw [List.length_append, List.length_take]; omega), List.getElem?_append_right (by rw [List.length_take]; omega), List.length_take]
      congr 1; omega
    · rw [if_neg (by omega), List.getElem?_append_right (by rw [List.length_append, List.length_take]; omega), List.length_append, List.length_take, List.getElem?_drop, ← Array.getElem?_toList]
      congr 1; omega
theorem foldl_zip : ∀ (us : List Value) (m off : Nat) (C : Array Value), (us.zipIdx m).foldl (fun cs (x : Value × Nat) => cs.setIfInBounds (off + x.2) x.1) C = putL us (off + m) C
  | [], _, _, _ => rfl
  | u :: us, m, off, C => by
    rw [List.zipIdx_cons, List.foldl_cons, foldl_zip us (m + 1) off]; rfl
theorem foldl_zipA (us C : Array Value) (off : Nat) : us.zipIdx.foldl (fun cs (x : Value × Nat) => cs.setIfInBounds (off + x.2) x.1) C = putL us.toList off C := by
  rw [← Array.foldl_toList, Array.toList_zipIdx]
  exact foldl_zip us.toList 0 off C
inductive RVO (ι : Inj) : Option AV → Option Value → Prop
  | none : RVO ι .none .none
  | some {a : AV} {v : Value} : RV ι a v → RVO ι (.some a) (.some v)
theorem fillA_ok {place : Nat → Option (Nat × Nat)} : ∀ (ps : List (Nat × AV)) (us : List (Nat × Value)) (cells : List AV) (C : Array Value) (k : List AV → β), fillA place ps cells k s = r → s ≠ r → RVP ι ps us → RVL ι cells C.toList →
    ∃ l C', Instr.fill place C us = some C' ∧ RVL ι l C'.toList ∧ k l = r
  | [], _, cells, C, k, hr, n, .nil, hc => ⟨cells, C, rfl, hc, hr⟩
  | (i, v) :: ps, (_, u) :: us, cells, C, k, hr, n, .cons hv hps, hc => by
    have h0 : Option.rec (motive := fun _ => β) s (fun q => v.cellsK (fun l => eqN (lenL l) q.2 (le (Nat.add q.1 q.2) (lenL cells) (fillA place ps (splice l cells q.1) k s) s) s) s) (place i) = r := hr
    obtain ⟨q, hq, h1⟩ := optRec_inv h0 n
    obtain ⟨l, hl, h2⟩ := cellsK_ok h1 n hv
    obtain ⟨h3, h2⟩ := eqN_inv h2 n
    obtain ⟨h4, h2⟩ := le_inv h2 n
    rw [lenL_eq] at h3 h4
    obtain ⟨off, size⟩ := q
    have h4' : off + size ≤ cells.length := h4
    have h3' : l.length = size := h3
    have e1 := hl.length
    have e2 := hc.length
    have e3 : u.cells.toList.length = u.cells.size := Array.length_toList
    have e4 : C.toList.length = C.size := Array.length_toList
    rw [splice_eq l cells off (by omega)] at h2
    obtain ⟨l', C', f1, f2, f3⟩ := fillA_ok ps us _ (putL u.cells.toList off C) k h2 n hps (by
      rw [putL_list _ _ _ (by omega)]
      rw [← e1]
      exact ((hc.take off).append hl).append (hc.drop _))
    refine ⟨l', C', ?_, f2, f3⟩
    rw [Instr.fill]
    simp only [hq]
    rw [if_neg (by simp only [Bool.or_eq_true, decide_eq_true_eq]; omega), foldl_zipA]
    exact f1
theorem replA_eq (z : List AV) : ∀ n, replA n z = (List.replicate n z).flatten
  | 0 => rfl
  | n + 1 => by
    show appL z (replA n z) = _
    rw [appL_eq, replA_eq z n, List.replicate_succ, List.flatten_cons]
/-- A row of zeros, as the machine builds it. -/
theorem repl_ok {z : List AV} {zs : Array Value} (hz : RVL ι z zs.toList) (n : Nat) : RVL ι (replA n z) ((Array.range (n * zs.size)).map (fun i => zs[i % zs.size]!)).toList := by
  rw [Array.toList_map, Array.toList_range]
  induction n with
  | zero => rw [Nat.zero_mul]; exact .nil
  | succ n ih =>
    show RVL ι (appL z (replA n z)) _
    rw [appL_eq]
    have e : (List.range ((n + 1) * zs.size)).map (fun i => zs[i % zs.size]!) = zs.toList ++ (List.range (n * zs.size)).map (fun i => zs[i % zs.size]!) := by
      rw [show (n + 1) * zs.size = zs.size + n * zs.size by rw [Nat.add_mul, Nat.one_mul, Nat.add_comm], List.range_add, List.map_append, List.map_map]
      congr 1
      · apply List.ext_getElem?
        intro j
        rw [List.getElem?_map, Array.getElem?_toList]
        by_cases hj : j < zs.size
        · simp [hj, Nat.mod_eq_of_lt hj]
        · simp [hj]
      · apply List.map_congr_left
        intro i _
        simp
    rw [e]
    exact hz.append ih

/-! ### Places in a row -/
theorem boundOf_inv {x : Option AV} {xv : Option Value} {d : Nat} {k : Nat → β} (hr : boundOf x d k s = r) (n : s ≠ r) (hx : RVO ι x xv) : ∃ m, k m = r ∧ ((xv = none ∧ m = d) ∨ ∃ q, xv = some (.int q (m : Int))) := by
  cases hx with
  | none => exact ⟨d, hr, .inl ⟨rfl, rfl⟩⟩
  | some hv =>
    obtain ⟨t, m, ex, h1⟩ := natOf_inv (hr : natOf _ k s = r) n
    subst ex
    exact ⟨m, h1, .inr ⟨t, by rw [rv_int hv]⟩⟩
theorem sliceBound_run {q : IntKind} {m y : Nat} (hm : m ≤ y) (code : BoundsCode) : (Instr.sliceBound (.int q (m : Int)) y code).run P w = .ok m w := by
  have h1 : (0 : Int) ≤ (m : Int) ∧ (m : Int) ≤ (y : Int) := ⟨by omega, by omega⟩
  simp only [Instr.sliceBound, asIntOf, Sem.run_bind, Sem.run_pure, Result.andThen, if_pos h1, Int.toNat_natCast]
theorem bounds_ok {len cap : Nat} {lo hi mx : Option AV} {lov hiv mxv : Option Value} {k : Nat → Nat → Nat → β} (hr : bounds len cap lo hi mx k s = r) (n : s ≠ r) (hlo : RVO ι lo lov) (hhi : RVO ι hi hiv) (hmx : RVO ι mx mxv) (hc : (mx.isSome && hi.isNone) = false) :
    ∃ l u m, k l u m = r ∧ l ≤ u ∧ u ≤ m ∧ m ≤ cap ∧ (mxv = none → m = cap) ∧ ∀ (b : Bool) c, cap ≤ c → (Instr.sliceBounds b len c lov hiv mxv).run P w = .ok (l, u, if mxv.isSome then m else c) w := by
  unfold bounds at hr
  obtain ⟨m, hr, hm⟩ := boundOf_inv hr n hmx
  obtain ⟨u, hr, hu⟩ := boundOf_inv hr n hhi
  obtain ⟨l, hr, hl⟩ := boundOf_inv hr n hlo
  obtain ⟨h1, hr⟩ := le_inv hr n
  obtain ⟨h2, hr⟩ := le_inv hr n
  obtain ⟨h3, hr⟩ := le_inv hr n
  refine ⟨l, u, m, hr, h1, h2, h3, fun e => ?_, fun b c hcc => ?_⟩
  · rcases hm with ⟨_, q⟩ | ⟨q, e2⟩
    · exact q
    · rw [e] at e2; cases e2
  · rcases hm with ⟨e1, rfl⟩ | ⟨q1, e1⟩
    · rcases hu with ⟨e2, rfl⟩ | ⟨q2, e2⟩
      · rcases hl with ⟨e3, rfl⟩ | ⟨q3, e3⟩
        · subst e1 e2 e3
          simp only [Instr.sliceBounds, Sem.run_bind, Sem.run_pure, Result.andThen, Option.isSome_none, Bool.false_eq_true, if_false]
        · subst e1 e2 e3
          simp only [Instr.sliceBounds, Sem.run_bind, Sem.run_pure, Result.andThen, Option.isSome_none, Bool.false_eq_true, if_false, sliceBound_run h1]
      · rcases hl with ⟨e3, rfl⟩ | ⟨q3, e3⟩
        · subst e1 e2 e3
          simp only [Instr.sliceBounds, Sem.run_bind, Sem.run_pure, Result.andThen, Option.isSome_none, Bool.false_eq_true, if_false, sliceBound_run (Nat.le_trans h2 hcc)]
        · subst e1 e2 e3
          simp only [Instr.sliceBounds, Sem.run_bind, Sem.run_pure, Result.andThen, Option.isSome_none, Bool.false_eq_true, if_false, sliceBound_run (Nat.le_trans h2 hcc), sliceBound_run h1]
    · rcases hu with ⟨e2, rfl⟩ | ⟨q2, e2⟩
      · subst e1 e2
        cases hmx; cases hhi; cases hc
      · rcases hl with ⟨e3, rfl⟩ | ⟨q3, e3⟩
        · subst e1 e2 e3
          simp only [Instr.sliceBounds, Sem.run_bind, Sem.run_pure, Result.andThen, Option.isSome_some, if_true, sliceBound_run (Nat.le_trans h3 hcc), sliceBound_run h2]
        · subst e1 e2 e3
          simp only [Instr.sliceBounds, Sem.run_bind, Sem.run_pure, Result.andThen, Option.isSome_some, if_true, sliceBound_run (Nat.le_trans h3 hcc), sliceBound_run h2, sliceBound_run h1]
theorem sliceStr_ok {S : ByteArray} {lo hi : Option AV} {lov hiv : Option Value} {k : AV → β} (hr : sliceStr S.size (encS S) lo hi k s = r) (n : s ≠ r) (hlo : RVO ι lo lov) (hhi : RVO ι hi hiv) :
    ∃ l u, k (.str (S.extract l u).size (encS (S.extract l u))) = r ∧ (Instr.sliceBounds false S.size S.size lov hiv none).run P w = .ok (l, u, S.size) w := by
  unfold sliceStr at hr
  obtain ⟨l, u, m, hr, h1, h2, h3, h4, h5⟩ := bounds_ok (P := P) (w := w) hr n hlo hhi .none rfl
  have := h4 rfl
  subst this
  simp only [forceN_eq] at hr
  obtain ⟨e1, e2⟩ := sub_ok S l u h1 h2
  refine ⟨l, u, ?_, by simpa using h5 false _ (Nat.le_refl _)⟩
  rw [← e1, e2]; exact hr
/-- A part of a slice, or of an array. -/
theorem sliceSl_ok {sz g e i len c : Nat} {cap : Option Nat} {lo hi mx : Option AV} {lov hiv mxv : Option Value} {k : AV → β} (hr : sliceSl sz g e i len cap lo hi mx k s = r) (n : s ≠ r) (hlo : RVO ι lo lov) (hhi : RVO ι hi hiv) (hmx : RVO ι mx mxv) (hh : (mx.isSome && hi.isNone) = false)
    {l : Loc} {o : Nat} (hl : ι g e = some l) (a1 : l.lo ≤ i) (a2 : i + len * sz ≤ l.hi) (a3 : (i : Int) + l.d = (o : Int) ∨ c = 0) (a4 : len ≤ c) (a5 : c ≠ 0 → o + c * sz ≤ l.top) (a6 : ∀ q, cap = some q → c = q ∧ i + q * sz ≤ l.hi) (a7 : cap = none → l.hi ≤ i + c * sz) :
    ∃ x y m v, (∀ b, (Instr.sliceBounds b len c lov hiv mxv).run P w = .ok (x, y, m) w) ∧ RV ι v (.slice (some (if m = x then ⟨l.b, o, none⟩ else (⟨l.b, o, none⟩ : Addr).add (x * sz))) (y - x) (m - x)) ∧ k v = r := by
  have key : ∀ {x y m : Nat} {cap' : Option Nat}, x ≤ y → y ≤ m → m ≤ c → i + y * sz ≤ l.hi → (∀ q, cap' = some q → q = m - x ∧ i + m * sz ≤ l.hi) → (cap' = none → m = c ∧ cap = none) → RV ι (.sl g e (i + x * sz) (y - x) cap' sz) (.slice (some (if m = x then ⟨l.b, o, none⟩ else (⟨l.b, o, none⟩ : Addr).add (x * sz))) (y - x) (m - x)) := by
    intro x y m cap' b1 b2 b3 b4 b5 b6
    have c1 : x * sz + (y - x) * sz = y * sz := by rw [← Nat.add_mul]; congr 1; omega
    have c2 : x * sz + (m - x) * sz = m * sz := by rw [← Nat.add_mul]; congr 1; omega
    have c3 : m * sz ≤ c * sz := Nat.mul_le_mul_right _ b3
    have c4 : x * sz ≤ m * sz := Nat.mul_le_mul_right _ (by omega)
    have hd : ∀ (q : Nat), cap' = some q → (m - x : Nat) = q ∧ i + x * sz + q * sz ≤ l.hi := fun q hq => by
      obtain ⟨d1, d2⟩ := b5 q hq
      rw [d1]; exact ⟨rfl, by omega⟩
    by_cases hm : m = x
    · rw [if_pos hm]
      exact .sl hl (by omega) (by omega) (.inr (by omega)) (by omega) (fun hne => absurd (by omega) hne) hd (fun hn => by have := b6 hn; have := a7 this.2; have e5 := this; rw [show c = m by omega] at e5; omega)
    · rw [if_neg hm, add_addr]
      have hc0 : c ≠ 0 := by omega
      have := a5 hc0
      refine .sl hl (by omega) (by omega) (.inl ?_) (by omega) (fun _ => by omega) hd (fun hn => by have := b6 hn; have := a7 this.2; have e5 := this; rw [show c = m by omega] at e5; omega)
      rcases a3 with a3 | a3
      · push_cast at *; omega
      · omega
  unfold sliceSl at hr
  cases cap with
  | some q =>
    obtain ⟨q1, q2⟩ := a6 q rfl
    subst q1
    obtain ⟨x, y, m, hr, b1, b2, b3, b4, b5⟩ := bounds_ok (P := P) (w := w) (hr : bounds len c lo hi mx _ s = r) n hlo hhi hmx hh
    simp only [forceN_eq] at hr
    have hm : (if mxv.isSome then m else c) = m := by
      cases mxv with
      | none => exact (b4 rfl).symm
      | some _ => rfl
    refine ⟨x, y, m, _, fun b => by rw [b5 b c (Nat.le_refl _), hm], key b1 b2 b3 ?_ (fun q hq => ?_) (fun hn => by cases hn), hr⟩
    · have : y * sz ≤ c * sz := Nat.mul_le_mul_right _ (by omega)
      omega
    · cases hq
      have : m * sz ≤ c * sz := Nat.mul_le_mul_right _ b3
      exact ⟨rfl, by omega⟩
  | none =>
    cases hmx with
    | none =>
      obtain ⟨x, y, m, hr, b1, b2, b3, b4, b5⟩ := bounds_ok (P := P) (w := w) (hr : bounds len len lo hi none _ s = r) n hlo hhi .none (by simp)
      simp only [forceN_eq] at hr
      refine ⟨x, y, c, _, fun b => by simpa using b5 b c a4, key b1 (by omega) (Nat.le_refl _) ?_ (fun q hq => by cases hq) (fun _ => ⟨rfl, rfl⟩), hr⟩
      have : y * sz ≤ len * sz := Nat.mul_le_mul_right _ (by omega)
      omega
    | some hmv =>
      obtain ⟨x, y, m, hr, b1, b2, b3, b4, b5⟩ := bounds_ok (P := P) (w := w) (hr : bounds len len lo hi (some _) _ s = r) n hlo hhi (.some hmv) hh
      simp only [forceN_eq] at hr
      have h1 : m * sz ≤ len * sz := Nat.mul_le_mul_right _ b3
      have h2 : y * sz ≤ m * sz := Nat.mul_le_mul_right _ b2
      exact ⟨x, y, m, _, fun b => by simpa using b5 b c a4, key b1 b2 (by omega) (by omega) (fun q hq => by cases hq; exact ⟨rfl, by omega⟩) (fun hn => by cases hn), hr⟩
/-- A place in a slice. -/
theorem indexSl_ok {sz g e i len c : Nat} {j : AV} {jv : Value} {k : AV → β} (hr : indexSl sz g e i len j k s = r) (n : s ≠ r) (hj : RV ι j jv) {l : Loc} {o : Nat} (hl : ι g e = some l) (a1 : l.lo ≤ i) (a2 : i + len * sz ≤ l.hi) (a3 : (i : Int) + l.d = (o : Int) ∨ c = 0) (a4 : len ≤ c) (a5 : c ≠ 0 → o + c * sz ≤ l.top) :
    ∃ (q : IntKind) (x : Nat) (v : AV), jv = .int q (x : Int) ∧ x < len ∧ RV ι v (.pointer (some ((⟨l.b, o, none⟩ : Addr).add (x * sz)))) ∧ k v = r := by
  unfold indexSl at hr
  obtain ⟨q, x, ex, hr⟩ := natOf_inv hr n
  subst ex
  obtain ⟨h1, hr⟩ := le_inv hr n
  simp only [forceN_eq] at hr
  have h1' : x < len := h1
  have h2 : (x + 1) * sz ≤ len * sz := Nat.mul_le_mul_right _ h1
  rw [Nat.add_mul, Nat.one_mul] at h2
  refine ⟨q, x, _, by rw [rv_int hj], h1', ?_, hr⟩
  rw [add_addr]
  show RV ι (.ptr g e (i + x * sz) (i + x * sz + sz)) _
  have h3 : len * sz ≤ c * sz := Nat.mul_le_mul_right _ a4
  have h4 := a5 (by omega)
  have h5 : (i : Int) + l.d = (o : Int) := by rcases a3 with a3 | a3 <;> omega
  exact .ptr hl (by omega) (by omega) (by omega) (by omega)
theorem indexStr_ok {S : ByteArray} {j : AV} {jv : Value} {k : AV → β} (hr : indexStr S.size (encS S) j k s = r) (n : s ≠ r) (hj : RV ι j jv) : ∃ (q : IntKind) (x : Nat), ∃ hx : x < S.size, jv = .int q (x : Int) ∧ k (.int .u8 (S[x].toNat : Nat)) = r := by
  unfold indexStr at hr
  obtain ⟨q, x, ex, hr⟩ := natOf_inv hr n
  subst ex
  obtain ⟨h1, hr⟩ := le_inv hr n
  rw [forceN_eq, byte_ok S x h1] at hr
  exact ⟨q, x, h1, by rw [rv_int hj], hr⟩
end
/-! ### Rows that grow -/
section
variable {P : Program} {RT : List Rule} {ι : Inj} {h : H} {w : World} {β : Type} {s r : β} {G : Nat → AV}
theorem lenA_ok {x : AV} {xv : Value} {k : Nat → β} (hr : lenA x k s = r) (n : s ≠ r) (hx : RV ι x xv) : ∃ m, (Builtin.lenOf xv).run P w = .ok m w ∧ k m = r := by
  unfold lenA at hr
  rcases AV.onSlNulStr_inv hr n with ⟨g, e, i, len, c, z, ex, hr⟩ | ⟨t, ex, hr⟩ | ⟨m, u, ex, hr⟩
  · subst ex; cases hx; exact ⟨_, rfl, hr⟩
  · subst ex
    cases t with
    | s => cases hx; exact ⟨0, rfl, hr⟩
    | _ => exact absurd hr n
  · subst ex; cases hx; exact ⟨_, rfl, hr⟩
theorem byteCells_eq : ∀ (l : List UInt8) (acc : List AV) (k : List AV → β), byteCells l.length (enc l) acc k = k (l.map (fun b => AV.int .u8 (b.toNat : Nat)) ++ acc) := by
  intro l
  induction hn : l.length generalizing l with
  | zero =>
    intro acc k
    have : l = [] := List.length_eq_zero_iff.1 hn
    subst this; rfl
  | succ m ih =>
    intro acc k
    obtain ⟨l', b, rfl⟩ : ∃ l' b, l = l' ++ [b] := ⟨l.dropLast, l.getLast (by intro h; subst h; cases hn), (List.dropLast_concat_getLast _).symm⟩
    have hl : l'.length = m := by simpa using hn
    show forceN (Nat.mod (enc (l' ++ [b])) 256) (fun b' => forceN (Nat.div (enc (l' ++ [b])) 256) fun s' => byteCells m s' (AV.int .u8 (.ofNat b') :: acc) k) = _
    rw [forceN_eq, forceN_eq]
    have e : enc (l' ++ [b]) = enc l' * 256 + b.toNat := by rw [enc_append]; simp [enc_cons, enc_nil]
    have hb : b.toNat < 256 := b.toNat_lt
    have e1 : Nat.mod (enc (l' ++ [b])) 256 = b.toNat := by show enc (l' ++ [b]) % 256 = _; rw [e]; omega
    have e2 : Nat.div (enc (l' ++ [b])) 256 = enc l' := by show enc (l' ++ [b]) / 256 = _; rw [e]; omega
    rw [e1, e2, ih l' hl]
    simp only [List.map_append, List.map_cons, List.map_nil, List.append_assoc, List.cons_append, List.nil_append]
    rfl
theorem bytes_rvl (ι : Inj) : ∀ l : List UInt8, RVL ι (l.map fun b => AV.int .u8 (b.toNat : Nat)) (l.map fun b => Value.int .u8 (b.toNat : Nat))
  | [] => .nil
  | _ :: l => .cons (.int _ _) (bytes_rvl ι l)
theorem firstCells_run {b o m z : Nat} {C : Array Value} {el : TypeId} {fr : Nat × Nat} (b1 : w.heap[b]? = some (.cells C el fr)) (b2 : m * z = 0 ∨ o + m * z ≤ C.size) (len cap : Nat) : (Builtin.firstCells z m (.slice (some ⟨b, o, none⟩) len cap)).run P w = .ok (C.extract o (o + m * z)) w := by
  simp only [Builtin.firstCells]
  unfold loadCells
  rcases b2 with b2 | b2
  · rw [b2]
    simp only [loadCellsFrom, Sem.run_pure]
    congr 1
    apply Array.ext'
    simp
  · have := loadCells_run (P := P) b1 o (m * z) 0 #[] (by omega)
    simpa using this
theorem firstOf_ok {sz m : Nat} {x : AV} {xv : Value} {k : List AV → β} (hr : firstOf sz m x h k s = r) (n : s ≠ r) (S : Sim ι h w) (hx : RV ι x xv) :
    ∃ us l, (∀ w' : World, w'.heap = w.heap → (Builtin.firstCells sz m xv).run P w' = .ok us w') ∧ RVL ι l us.toList ∧ l.length = m * sz ∧ k l = r := by
  unfold firstOf at hr
  rcases AV.onSlNulStr_inv hr n with ⟨g, e, i, len, c, z, ex, hr⟩ | ⟨t, ex, hr⟩ | ⟨q, u, ex, hr⟩
  · subst ex
    obtain ⟨c', L, ep, fl, mk, ho, hr⟩ := onCells_inv hr n
    obtain ⟨h1, hr⟩ := le_inv hr n
    obtain ⟨rfl, hr⟩ := eqN_inv hr n
    obtain ⟨h2, hr⟩ := le_inv hr n
    rw [cellsFrom_eq] at hr
    cases hx with
    | @sl _ _ _ _ o cc _ _ l hl a1 a2 a3 a4 a5 a6 a7 =>
      have hm : m * z ≤ len * z := Nat.mul_le_mul_right _ h2
      obtain ⟨hc, _⟩ := S.cells hl ho h1
      rcases a3 with a3 | a3
      · obtain ⟨C, el, fr, b1, b2, b3⟩ := hc.row (n := m * z) a3 a1 (by omega)
        refine ⟨C.extract o (o + m * z), _, fun w' hw' => firstCells_run (by rw [hw']; exact b1) b2 _ _, b3, cellsL_length _ _ _, hr⟩
      · have : m * z = 0 := by
          have : m = 0 := by omega
          rw [this, Nat.zero_mul]
        have hr' : k (cellsL c' 0 i) = r := by rw [← this]; exact hr
        exact ⟨#[], [], fun _ _ => by simp only [Builtin.firstCells, loadCells, this, loadCellsFrom, Sem.run_pure], .nil, by simp [this], hr'⟩
  · subst ex
    cases t with
    | s =>
      obtain ⟨rfl, hr⟩ := eqN_inv (hr : eqN m 0 (k []) s = r) n
      cases hx
      exact ⟨#[], [], fun _ _ => rfl, .nil, by simp, hr⟩
    | _ => exact absurd hr n
  · subst ex
    obtain ⟨e1, h8⟩ := eqN_inv hr n
    obtain ⟨e2, h9⟩ := eqN_inv h8 n
    clear hr h8
    subst e1 e2
    obtain ⟨S', rfl, rfl, rfl⟩ := rv_str hx
    have hl := size_eq S'
    rw [encS_eq, ← hl, byteCells_eq] at h9
    refine ⟨(S'.extract 0 S'.size).data.map fun b => .int .u8 b.toNat, _, fun _ _ => rfl, ?_, ?_, h9⟩
    · rw [Array.toList_map, extract_toList, List.append_nil]
      simp only [List.drop_zero, Nat.sub_zero]
      rw [← hl, List.take_length]
      exact bytes_rvl ι _
    · simp
/-- A new slice, all of whose room is known. -/
theorem newSlice_ok {vs : List AV} {us : Array Value} {sz m c : Nat} {k : AV → H → β} (hr : newSlice h vs sz m (some c) k s = r) (n : s ≠ r) (S : Sim ι h w) (hv : RVL ι vs us.toList) (hm : m ≤ c) (hc : vs.length = c * sz) (elem : TypeId) :
    ∃ w', (newRow elem us).run P w = .ok ⟨w.heap.size, 0, none⟩ w' ∧ PostK ι h w k r (.slice (some ⟨w.heap.size, 0, none⟩) m c) w' := by
  unfold newSlice at hr
  obtain ⟨g, h', ι', e1, e2, e3, e4⟩ := newCells_sound (el := elem) hr n S hv
  have hlen := hv.length
  have h1 : us.toList.length = us.size := Array.length_toList
  have h2 : m * sz ≤ c * sz := Nat.mul_le_mul_right _ hm
  refine ⟨_, rfl, _, h', ι', e1, e2, ?_, e3⟩
  exact .sl e4 (Nat.zero_le _) (by show 0 + m * sz ≤ vs.length; omega) (.inl rfl) hm (fun _ => by show 0 + c * sz ≤ us.size; omega) (fun q hq => by cases hq; exact ⟨rfl, by show 0 + c * sz ≤ vs.length; omega⟩) (fun hn => by cases hn)
/-- A new slice with room behind it that is not known. -/
theorem newSlice_room {vs : List AV} {us : List Value} {sz m c : Nat} {k : AV → H → β} {q : Nat} (hr : newSlice h vs sz m none k s q = r) (n : s ≠ r) (S : Sim ι h w) (hv : RVL ι vs us) (hm : m ≤ c) (hvl : vs.length = m * sz) {X : Array Value} (hX : ∃ rest, X.toList = us ++ rest) (hs : c * sz ≤ X.size) (elem : TypeId) (hq : q = 0 ∨ q = 2 * elem + 2) {w1 : World} (hw : w1.heap = w.heap) (hw2 : w1 = { w with drawn := w1.drawn }) :
    ∃ w', (newRow elem X).run P w1 = .ok ⟨w.heap.size, 0, none⟩ w' ∧ PostK ι h w k r (.slice (some ⟨w.heap.size, 0, none⟩) m c) w' := by
  unfold newSlice newCells at hr
  rw [layCells_eq, H.new_eq] at hr
  split at hr
  · rename_i hn
    have hlen := hv.length
    have h2 : m * sz ≤ c * sz := Nat.mul_le_mul_right _ hm
    obtain ⟨rest, hX⟩ := hX
    obtain ⟨a, b⟩ := S.newBlock (w' := { w1 with heap := w1.heap.push (.cells X elem) }) hn (c := layL vs (CT.newT q) 0) (len := vs.length) (mk := 0) (X := X) (el := elem) (fr := (0, 0)) layL_new.1 (by rw [hw]; show World.mk _ _ _ _ _ = World.mk _ _ _ _ _; rw [hw2]) (fun _ j => by simp) (fun _ j _ => by simp)
      (fun j hj => by
        obtain ⟨x, hx, hr'⟩ := hv.get j hj
        refine ⟨x, ?_, by rw [layL_new.2 j hj]; exact hr'⟩
        rw [← Array.getElem?_toList, hX, List.getElem?_append_left (by omega)]; exact hx) (by rw [layL_el]; exact hq.imp id .inr)
    have hr' : k (.sl h.nx 0 0 m none sz) (h.newv (.cells (layL vs (CT.newT q) 0) vs.length 0 0 0)) = r := by simpa using hr
    refine ⟨{ w1 with heap := w1.heap.push (.cells X elem) }, by rw [← hw]; rfl, _, _, _, hr', a, ?_, b⟩
    exact .sl (Inj.add_same _ _ _ _) (Nat.zero_le _) (by show 0 + m * sz ≤ vs.length; omega) (.inl rfl) hm (fun _ => by show 0 + c * sz ≤ X.size; omega) (fun q hq => by cases hq) (fun _ => by show vs.length ≤ 0 + c * sz; omega)
  · exact absurd hr n
theorem growBy_le (newLen : Nat) : ∀ (rounds c : Nat), newLen ≤ 1000000 → c ≤ 2000000 → Builtin.growBy newLen rounds c ≤ 2000000
  | 0, c, _, h2 => h2
  | rounds + 1, c, h1, h2 => by
    rw [Builtin.growBy]
    split
    · exact h2
    · exact growBy_le newLen rounds _ h1 (by omega)
theorem nextcap_le {newLen old : Nat} (h1 : newLen ≤ 1000000) (h2 : old < newLen) : Builtin.nextslicecap newLen old ≤ 2000000 := by
  unfold Builtin.nextslicecap
  split
  · omega
  · split
    · omega
    · exact growBy_le _ _ _ h1 (by omega)
/-- What is appended: a slice's or a string's first cells, or as many zeros. -/
def AppIn (P : Program) (i : TypeInfo) (z : Value) (d1 : TypeDesc) (x : Value) (m : Nat) (w : World) (new : Array Value) : Prop :=
  ((∀ q, d1 ≠ .int q) ∧ (Builtin.lenOf x).run P w = .ok m w ∧ ∀ w', w'.heap = w.heap → (Builtin.firstCells i.size m x).run P w' = .ok new w') ∨
  (∃ q q', d1 = .int q ∧ x = .int q' (m : Int) ∧ m ≤ 1000000 ∧ new = Builtin.zeroCells z.cells m)
theorem wrap_nat {m : Nat} (hm : m ≤ 1000000) : IntKind.wrap .i64 (m : Int) = (m : Int) := by
  rw [← wrap64_ok]; unfold wrap64A; rw [show fits64 (m : Int) = true from Nat.ble_eq_true_of_le (by omega)]
theorem zeroCells_nil {z : Value} {m sz : Nat} (h : m * sz = 0) (hs : sz ≠ 0) : Builtin.zeroCells z.cells m = #[] := by
  have : m = 0 := by rcases Nat.mul_eq_zero.1 h with q | q <;> first | exact q | exact absurd q hs
  subst this
  simp [Builtin.zeroCells]
theorem append_grow {ts : Array TypeId} {ty t e : TypeId} {i : TypeInfo} {z : Value} {args : Array Value} {base : Option Addr} {sLen sCap m : Nat} {x : Value} {old new : Array Value} (h0 : ts[0]? = some t) (ht : P.underlying t = some (.slice e)) {t1 : TypeId} {d1 : TypeDesc} (h1 : ts[1]? = some t1) (ht1 : P.underlying t1 = some d1)
    (ha0 : args[0]? = some (.slice base sLen sCap)) (ha1 : args[1]? = some x) (hi : P.info? e = some i) (hz : i.zero = some z) (hb : i.bytes ≤ 1000000) (hsz0 : i.size ≠ 0) (hA : AppIn P i z d1 x m w new) (hneed : sLen + m ≤ 1000000) (hcap : sCap < sLen + m) (hf : ∀ w', w'.heap = w.heap → (Builtin.firstCells i.size sLen (.slice base sLen sCap)).run P w' = .ok old w') :
    ∃ c, sLen + m ≤ c ∧ (Builtin.append_ ts ty args).run P w = (do let a ← newRow e (old ++ new ++ Builtin.zeroCells z.cells (c - (sLen + m))); pure (.slice (some a) (sLen + m) c) : Sem Value).run P { w with drawn := w.drawn + 1 } := by
  refine ⟨(Question.appendCap (sLen + m) sCap e).cut (w.tape w.drawn (Question.appendCap (sLen + m) sCap e)), Nat.le_add_right _ _, ?_⟩
  have hmax : IntKind.i64.max = 9223372036854775807 := by decide
  have hsm : ¬ ((((sLen + m : Nat) : Int) > IntKind.i64.max) ∧ (False ∨ i.bytes = 0)) := by rw [hmax]; omega
  have hsm2 : ¬ ((((sLen + m : Nat) : Int) > IntKind.i64.max) ∧ (True ∨ i.bytes = 0)) := by rw [hmax]; omega
  have hcap2 : ¬ (Builtin.nextslicecap (sLen + m) sCap * i.bytes > 2 ^ 48) := by
    have h3 := nextcap_le hneed hcap
    have : Builtin.nextslicecap (sLen + m) sCap * i.bytes ≤ 2000000 * 1000000 := Nat.mul_le_mul h3 hb
    omega
  have hno : ¬ (sLen + m ≤ sCap) := by omega
  have hq : (choose (Question.appendCap (sLen + m) sCap e)).run P w = .ok ((Question.appendCap (sLen + m) sCap e).cut (w.tape w.drawn (Question.appendCap (sLen + m) sCap e))) { w with drawn := w.drawn + 1 } := by
    rw [run_choose, if_neg (by simp [Question.forced])]
  simp only [Builtin.append_, h0, ha0, ha1, h1, Sem.run_bind, underlying_run ht, underlying_run ht1, Result.andThen, sizeOf_run hi, Sem.run_pure]
  rcases hA with ⟨hd1, hlen, hn⟩ | ⟨q, q', rfl, rfl, hm, rfl⟩
  · cases d1 with
    | int q => exact absurd rfl (hd1 q)
    | _ =>
      simp only [Bool.false_eq_true, if_false, hlen, Result.andThen, hno, Sem.run_bind, typeInfo_run hi, Sem.run_pure, hsm, hcap2, hq, run_askRoom, hf { w with drawn := w.drawn + 1 } rfl, hn { w with drawn := w.drawn + 1 } rfl, zeroValue_run hi hz, Bool.not_false, if_true]
  · have hb2 : ¬ ((m : Int) * (i.bytes : Int) > 2 ^ 48) := by
      have h3 : ((m * i.bytes : Nat) : Int) ≤ ((1000000 * 1000000 : Nat) : Int) := Int.ofNat_le.2 (Nat.mul_le_mul hm hb)
      rw [Int.natCast_mul] at h3
      omega
    have hneg : ¬ ((m : Int) < 0) := by omega
    by_cases hms : m * i.size = 0
    · simp only [if_true, asInt, asIntOf, Sem.run_bind, Sem.run_pure, Result.andThen, wrap_nat hm, hneg, if_false, typeInfo_run hi, hb2, Int.toNat_natCast, hno, hsm2, hcap2, hq, run_askRoom, hf { w with drawn := w.drawn + 1 } rfl, zeroValue_run hi hz, Bool.not_true, Bool.false_eq_true, hms, zeroCells_nil hms hsz0]
    · simp only [if_true, asInt, asIntOf, Sem.run_bind, Sem.run_pure, Result.andThen, wrap_nat hm, hneg, if_false, typeInfo_run hi, hb2, Int.toNat_natCast, hno, hsm2, hcap2, hq, run_askRoom, hf { w with drawn := w.drawn + 1 } rfl, zeroValue_run hi hz, Bool.not_true, Bool.false_eq_true, hms]
end
/-! ### Append -/
section
variable {P : Program} {RT : List Rule} {ι : Inj} {h : H} {w : World} {β : Type} {s r : β} {G : Nat → AV}
theorem CellsOk.below {ι' : Inj} {w' : World} {c : CT} {l : Loc} {mk : Nat} (hc : CellsOk ι w c l mk) (hle : Inj.le ι ι') {vs : List AV} {us : List Value} {at_ : Nat} (h1 : l.hi ≤ at_) (h2 : l.hi ≤ 8 ^ c.d)
    (hb : w'.heap[l.b]? = w.heap[l.b]? ∨ ∃ C el fr p, w.heap[l.b]? = some (.cells C el fr) ∧ (at_ : Int) + l.d = (p : Nat) ∧ w'.heap[l.b]? = some (.cells (putL us p C) el fr) ∧ p + us.length ≤ C.size) : CellsOk ι' w' (layL vs c at_) l mk := by
  have hg : ∀ j, j < l.hi → (layL vs c at_).get j = c.get j := fun j hj => (layL_spec vs c at_).2.2.2 j (by omega) (.inl (by omega))
  obtain ⟨C, el, fr, b1, b2, b3, b4, b5, b6⟩ := hc
  rcases hb with hb | ⟨C', el', fr', p, d1, d2, d3, d4⟩
  · refine ⟨C, el, fr, hb.trans b1, b2, b3, b4, fun i hi1 hi2 => ?_, by rw [layL_el]; exact b6⟩
    obtain ⟨o, u, q1, q2, q3⟩ := b5 i hi1 hi2
    exact ⟨o, u, q1, q2, by rw [hg i hi2]; exact q3.mono hle⟩
  · rw [b1] at d1; cases d1
    refine ⟨_, el, fr, d3, (putL_size us p C).trans b2, b3, b4, fun i hi1 hi2 => ?_, by rw [layL_el]; exact b6⟩
    obtain ⟨o, u, q1, q2, q3⟩ := b5 i hi1 hi2
    exact ⟨o, u, q1, by rw [putL_get us p C _ d4, if_neg (by omega)]; exact q2, by rw [hg i hi2]; exact q3.mono hle⟩
theorem ElOk.fix {c : CT} {el : TypeId} {l : Loc} (q : Nat) (h : ElOk c.el el l) : ElOk (c.fix q).el el l := by
  rcases CT.fix_el c q with e | ⟨e, _⟩
  · exact .inl e
  · rw [e]; exact h
theorem CellsOk.fix {c : CT} {l : Loc} {mk : Nat} (q : Nat) (h : CellsOk ι w c l mk) : CellsOk ι w (c.fix q) l mk := by
  obtain ⟨C, el, fr, b1, b2, b3, b4, b5, b6⟩ := h
  exact ⟨C, el, fr, b1, b2, b3, b4, fun i h1 h2 => by rw [CT.fix_get]; exact b5 i h1 h2, b6.fix q⟩
theorem ObjOk.fix {g L ep fl mk : Nat} {c : CT} (q : Nat) (h : ObjOk ι w g (.cells c L ep fl mk)) : ObjOk ι w g (.cells (c.fix q) L ep fl mk) := by
  obtain ⟨z1, z2, z3, z4⟩ := h
  refine ⟨by rw [CT.fix_d]; exact z1, z2, z3, fun s h1 h2 => ?_⟩
  obtain ⟨l, a, b, c', d⟩ := z4 s h1 h2
  exact ⟨l, a, b, c', d.fix q⟩
theorem cellsL_fix (c : CT) (q : Nat) : ∀ n i, cellsL (c.fix q) n i = cellsL c n i
  | 0, _ => rfl
  | n + 1, i => by
    show (c.fix q).get i :: cellsL (c.fix q) n (i + 1) = c.get i :: cellsL c n (i + 1)
    rw [CT.fix_get, cellsL_fix c q n (i + 1)]
/-- A row is laid behind the known part, in place. -/
theorem Sim.growIn (S : Sim ι h w) {g ep L fl : Nat} {l : Loc} {c : CT} (hl : ι g ep = some l) (ho : h.obj g = .cells c L ep fl 0) {vs : List AV} {us : List Value} {at_ p : Nat} (hap : (at_ : Int) + l.d = (p : Int))
    (hat : at_ ≤ L) (hend : L ≤ at_ + vs.length) (hne : vs ≠ []) (htop : p + vs.length ≤ l.top) (hv : RVL ι vs us) (hone : ∀ u ∈ us, oneV u) (fq : Nat) :
    ∃ w', (storeCells ⟨l.b, p, none⟩ us).run P w = .ok () w' ∧ Sim (ι.add g (ep + 1) ⟨l.b, l.d, l.lo, at_ + vs.length, l.top, undef⟩) (h.putv g (.cells (layL vs (c.fix fq) at_) (at_ + vs.length) (ep + 1) (if L ≤ at_ then fl else ep + 1) 0)) w' ∧
      Grows ι h w (ι.add g (ep + 1) ⟨l.b, l.d, l.lo, at_ + vs.length, l.top, undef⟩) (h.putv g (.cells (layL vs (c.fix fq) at_) (at_ + vs.length) (ep + 1) (if L ≤ at_ then fl else ep + 1) 0)) w' := by
  have hg := S.small hl
  have hobj := S.obj g hg
  rw [ho] at hobj
  replace hobj := hobj.fix fq
  generalize c.fix fq = c at hobj
  obtain ⟨z1, z2, z3, z4⟩ := hobj
  obtain ⟨l', y1, y2, y3, hc⟩ := z4 ep z2 (Nat.le_refl _)
  rw [hl] at y1; cases y1
  replace y3 := y3 rfl
  have hc0 := hc
  obtain ⟨C, el, fr, b1, b2, b3, b4, b5, b6⟩ := hc
  have hlv := hv.length
  have hb := S.inw _ _ _ hl
  have hnone := z3 (ep + 1) (by omega)
  have hle := Inj.add_le ι g (ep + 1) ⟨l.b, l.d, l.lo, at_ + vs.length, l.top, undef⟩ hnone
  have hfit : p + us.length ≤ C.size := by omega
  have hrun : (storeCells ⟨l.b, p, none⟩ us).run P w = .ok () { w with heap := w.heap.setIfInBounds l.b (.cells (putL us p C) el fr) } := by
    have := storeCells_run (P := P) us 0 b1 p (by omega) (fun j h1 h2 => b3 rfl j) hone
    simpa using this
  refine ⟨_, hrun, ?_⟩
  have hsp := layL_spec vs c at_
  refine S.put (ι' := ι.add g (ep + 1) _) hg (fun g' s' hne => Inj.add_other _ _ _ _ (by omega)) hle (fun s' l1 e n => ?_) (fun s1 s2 a b c' d' => ?_) (by simp) (fun b hb' hn => ?_) ⟨rfl, rfl, rfl⟩ (by rw [ho]; exact Nat.zero_le _) ?_
  · by_cases hs : s' = ep + 1
    · subst hs; rw [Inj.add_same] at e; cases e
      exact .inr ⟨ep, l, hl, rfl, rfl⟩
    · rw [Inj.add_other _ _ _ _ (by omega), n] at e; cases e
  · have f1 : s1 = ep + 1 := by
      rcases Nat.decEq s1 (ep + 1) with q | q
      · exact absurd (by rw [Inj.add_other _ _ _ _ (by omega)]; exact c') a
      · exact q
    have f2 : s2 = ep + 1 := by
      rcases Nat.decEq s2 (ep + 1) with q | q
      · exact absurd (by rw [Inj.add_other _ _ _ _ (by omega)]; exact d') b
      · exact q
    omega
  · rw [heap_set hb, if_neg (hn ep l hl)]
  · refine ⟨hsp.2.1 hne, by split <;> omega, fun s' hs => ?_, fun s' hs1 hs2 => ?_⟩
    · rw [Inj.add_other _ _ _ _ (by omega)]; exact z3 s' (by omega)
    · by_cases hs : s' = ep + 1
      · subst hs
        refine ⟨_, Inj.add_same _ _ _ _, Nat.le_refl _, fun _ => rfl, putL us p C, el, fr, by rw [heap_set hb, if_pos rfl], (putL_size us p C).trans b2, b3, b4, fun j hj1 hj2 => ?_, by rw [layL_el]; exact b6.imp id (Or.imp (fun ⟨f1, f2, f3, f4⟩ => ⟨f1, f2, f3, by show at_ + vs.length = l.top; omega⟩) id)⟩
        obtain ⟨q, u, e1, e2, e3⟩ := lay_cells (len := L) hap z1 y2 hv hfit b5 l.lo (at_ + vs.length) (Nat.le_refl _) (by omega) (by omega) j hj1 hj2
        exact ⟨q, u, e1, e2, e3.mono hle⟩
      · have hLat : L ≤ at_ := by
          rcases Nat.lt_or_ge at_ L with q | q
          · rw [if_neg (by omega)] at hs1; omega
          · exact q
        rw [if_pos hLat] at hs1
        obtain ⟨l2, k1, k2, k3, k4⟩ := z4 s' hs1 (by omega)
        refine ⟨l2, hle _ _ _ k1, by omega, fun hh => absurd hh hs, k4.below hle (us := us) (by omega) (by omega) ?_⟩
        by_cases e : l.b = l2.b
        · right
          refine ⟨C, el, fr, p, by rw [← e]; exact b1, ?_, by rw [heap_set hb, if_pos e], hfit⟩
          have := (S.inj _ _ _ _ _ _ hl k1 e).2
          omega
        · left; rw [heap_set hb, if_neg e]
/-- A row is laid behind the known part, in a new block. -/
theorem Sim.growNew (S : Sim ι h w) {g ep L fl : Nat} {l : Loc} {c : CT} (hl : ι g ep = some l) (ho : h.obj g = .cells c L ep fl 0) {vs : List AV} {us old : List Value} {i at_ : Nat}
    (hia : i ≤ at_) (hat : at_ ≤ L) (hne : vs ≠ []) (hv : RVL ι vs us) (hold : RVL ι (cellsL c (at_ - i) i) old) {X : Array Value} {el : TypeId} (hX : ∃ rest, X.toList = old ++ us ++ rest) {w' : World} (hw : w'.heap = w.heap.push (.cells X el)) (hx : SameExt w w') :
    Sim (ι.add g (ep + 1) ⟨w.heap.size, -(i : Int), i, at_ + vs.length, X.size, undef⟩) (h.putv g (.cells (layL vs (c.fix (2 * el + 2)) at_) (at_ + vs.length) (ep + 1) (if L ≤ at_ then fl else ep + 1) 0)) w' ∧
      Grows ι h w (ι.add g (ep + 1) ⟨w.heap.size, -(i : Int), i, at_ + vs.length, X.size, undef⟩) (h.putv g (.cells (layL vs (c.fix (2 * el + 2)) at_) (at_ + vs.length) (ep + 1) (if L ≤ at_ then fl else ep + 1) 0)) w' := by
  have hg := S.small hl
  have hobj := S.obj g hg
  rw [ho] at hobj
  replace hobj := hobj.fix (2 * el + 2)
  rw [← cellsL_fix c (2 * el + 2)] at hold
  have hel : (c.fix (2 * el + 2)).el = 0 ∨ (c.fix (2 * el + 2)).el = 2 * el + 2 := (CT.fix_el c (2 * el + 2)).imp id (fun hh => hh.1.trans hh.2)
  generalize c.fix (2 * el + 2) = c at hobj hold hel
  obtain ⟨z1, z2, z3, z4⟩ := hobj
  have hlv := hv.length
  have hlo2 := hold.length
  rw [cellsL_length] at hlo2
  have hnone := z3 (ep + 1) (by omega)
  have hle := Inj.add_le ι g (ep + 1) ⟨w.heap.size, -(i : Int), i, at_ + vs.length, X.size, undef⟩ hnone
  have hsp := layL_spec vs c at_
  have hkeep : ∀ b, b < w.heap.size → w'.heap[b]? = w.heap[b]? := fun b hb => by rw [hw, Array.getElem?_push_lt hb, Array.getElem?_eq_getElem hb]
  obtain ⟨rest, hX⟩ := hX
  refine S.put (ι' := ι.add g (ep + 1) _) hg (fun g' s' hne => Inj.add_other _ _ _ _ (by omega)) hle (fun s' l1 e n => ?_) (fun s1 s2 a b c' d' => ?_) (by rw [hw]; simp) (fun b hb' _ => hkeep b hb') hx (by rw [ho]; exact Nat.zero_le _) ?_
  · by_cases hs : s' = ep + 1
    · subst hs; rw [Inj.add_same] at e; cases e
      exact .inl ⟨Nat.le_refl _, by rw [hw]; simp⟩
    · rw [Inj.add_other _ _ _ _ (by omega), n] at e; cases e
  · have f1 : s1 = ep + 1 := by
      rcases Nat.decEq s1 (ep + 1) with q | q
      · exact absurd (by rw [Inj.add_other _ _ _ _ (by omega)]; exact c') a
      · exact q
    have f2 : s2 = ep + 1 := by
      rcases Nat.decEq s2 (ep + 1) with q | q
      · exact absurd (by rw [Inj.add_other _ _ _ _ (by omega)]; exact d') b
      · exact q
    omega
  · refine ⟨hsp.2.1 hne, by split <;> omega, fun s' hs => ?_, fun s' hs1 hs2 => ?_⟩
    · rw [Inj.add_other _ _ _ _ (by omega)]; exact z3 s' (by omega)
    · by_cases hs : s' = ep + 1
      · subst hs
        refine ⟨_, Inj.add_same _ _ _ _, Nat.le_refl _, fun _ => rfl, X, el, (0, 0), by rw [hw]; simp, rfl, fun _ j => by simp, fun _ j _ => by simp, fun j hj1 hj2 => ?_, by rw [layL_el]; exact hel.imp id .inr⟩
        have hj1' : i ≤ j := hj1
        have hj2' : j < at_ + vs.length := hj2
        have hall : RVL ι (cellsL c (at_ - i) i ++ vs) (old ++ us) := hold.append hv
        obtain ⟨x, hx, hr⟩ := hall.get (j - i) (by rw [List.length_append, cellsL_length]; omega)
        refine ⟨j - i, x, by show (j : Int) + -(i : Int) = ((j - i : Nat) : Int); omega, ?_, ?_⟩
        · rw [← Array.getElem?_toList, hX, List.getElem?_append_left (by rw [List.length_append]; omega)]; exact hx
        · refine RV.mono hle ?_
          have hnth : nth (cellsL c (at_ - i) i ++ vs) (j - i) = (layL vs c at_).get j := by
            by_cases hja : j < at_
            · rw [hsp.2.2.2 j (by omega) (.inl hja)]
              have : ∀ (n i k : Nat) (l : List AV), k < n → nth (cellsL c n i ++ l) k = c.get (i + k) := by
                intro n
                induction n with
                | zero => intro i k l hk; omega
                | succ n ih =>
                  intro i k l hk
                  cases k with
                  | zero => rfl
                  | succ k =>
                    show nth (cellsL c n (i + 1) ++ l) k = _
                    rw [ih (i + 1) k l (by omega)]; congr 1; omega
              rw [this _ _ _ _ (by omega)]; congr 1; omega
            · rw [hsp.2.2.1 j (by omega) (by omega)]
              have : ∀ (m l : List AV) (k : Nat), m.length ≤ k → nth (m ++ l) k = nth l (k - m.length) := by
                intro m
                induction m with
                | nil => intro l k _; rfl
                | cons x m ih =>
                  intro l k hk
                  cases k with
                  | zero => simp at hk
                  | succ k =>
                    show nth (m ++ l) k = _
                    rw [ih l k (by simpa using hk)]; congr 1; simp only [List.length_cons]; omega
              rw [this _ _ _ (by rw [cellsL_length]; omega), cellsL_length]; congr 1; omega
          rw [← hnth]; exact hr
      · have hLat : L ≤ at_ := by
          rcases Nat.lt_or_ge at_ L with q | q
          · rw [if_neg (by omega)] at hs1; omega
          · exact q
        rw [if_pos hLat] at hs1
        obtain ⟨l2, k1, k2, k3, k4⟩ := z4 s' hs1 (by omega)
        exact ⟨l2, hle _ _ _ k1, by omega, fun hh => absurd hh hs, k4.below hle (us := us) (by omega) (by omega) (.inl (hkeep _ (S.inw _ _ _ k1)))⟩
theorem append_fit {ts : Array TypeId} {ty t e : TypeId} {i : TypeInfo} {z : Value} {args : Array Value} {base : Option Addr} {sLen sCap m : Nat} {x : Value} {new : Array Value} (h0 : ts[0]? = some t) (ht : P.underlying t = some (.slice e)) {t1 : TypeId} {d1 : TypeDesc} (h1 : ts[1]? = some t1) (ht1 : P.underlying t1 = some d1)
    (ha0 : args[0]? = some (.slice base sLen sCap)) (ha1 : args[1]? = some x) (hi : P.info? e = some i) (hz : i.zero = some z) (hb : i.bytes ≤ 1000000) (hsz0 : i.size ≠ 0) (hA : AppIn P i z d1 x m w new) (hcap : sLen + m ≤ sCap)
    {w' : World} (hs : (match base with | some a => storeCells (a.add (sLen * i.size)) new.toList | none => pure ()).run P w = .ok () w') :
    (Builtin.append_ ts ty args).run P w = .ok (.slice base (sLen + m) sCap) w' := by
  simp only [Builtin.append_, h0, ha0, ha1, h1, Sem.run_bind, underlying_run ht, underlying_run ht1, Result.andThen, sizeOf_run hi, Sem.run_pure]
  rcases hA with ⟨hd1, hlen, hn⟩ | ⟨q, q', rfl, rfl, hm, rfl⟩
  · cases d1 with
    | int q => exact absurd rfl (hd1 q)
    | _ =>
      simp only [Bool.false_eq_true, if_false, hlen, Result.andThen, hcap, if_true, Sem.run_bind, hn w rfl, Bool.not_false]
      cases base with
      | none => simp only [Sem.run_pure] at hs; cases hs; rfl
      | some a => simp only at hs; simp only [Sem.run_bind, hs, Result.andThen, Sem.run_pure]
  · have hb2 : ¬ ((m : Int) * (i.bytes : Int) > 2 ^ 48) := by
      have h3 : ((m * i.bytes : Nat) : Int) ≤ ((1000000 * 1000000 : Nat) : Int) := Int.ofNat_le.2 (Nat.mul_le_mul hm hb)
      rw [Int.natCast_mul] at h3
      omega
    have hneg : ¬ ((m : Int) < 0) := by omega
    by_cases hms : m * i.size = 0
    · rw [zeroCells_nil hms hsz0] at hs
      simp only [if_true, asInt, asIntOf, Sem.run_bind, Sem.run_pure, Result.andThen, wrap_nat hm, hneg, if_false, typeInfo_run hi, hb2, Int.toNat_natCast, hcap, Bool.not_true, Bool.false_eq_true, hms]
      cases base with
      | none => simp only [Sem.run_pure] at hs; cases hs; rfl
      | some a => simp only at hs; simp only [Sem.run_bind, hs, Result.andThen, Sem.run_pure]
    · simp only [if_true, asInt, asIntOf, Sem.run_bind, Sem.run_pure, Result.andThen, wrap_nat hm, hneg, if_false, typeInfo_run hi, hb2, Int.toNat_natCast, hcap, Bool.not_true, Bool.false_eq_true, hms, zeroValue_run hi hz]
      cases base with
      | none => simp only [Sem.run_pure] at hs; cases hs; rfl
      | some a => simp only at hs; simp only [Sem.run_bind, hs, Result.andThen, Sem.run_pure]
theorem eqN_cases {a b : Nat} {t e : β} (hr : eqN a b t e = r) : (a = b ∧ t = r) ∨ (a ≠ b ∧ e = r) := by
  rw [eqN_eq] at hr
  split at hr
  · exact .inl ⟨‹_›, hr⟩
  · exact .inr ⟨‹_›, hr⟩
theorem le_cases {a b : Nat} {t e : β} (hr : le a b t e = r) : (a ≤ b ∧ t = r) ∨ (b < a ∧ e = r) := by
  rw [le_eq] at hr
  split at hr
  · exact .inl ⟨‹_›, hr⟩
  · exact .inr ⟨by omega, hr⟩
theorem append_gen {e : TypeId} {ti : TypeInfo} {z : Value} (hsz0 : ti.size ≠ 0) (hzs : z.cells.size = ti.size) {x : AV} {xv : Value} {m : Nat} {us : Array Value} {new : List AV} {k : AV → H → β} {R : Value → World → Prop}
    (hfit : ∀ {base : Option Addr} {sLen sCap : Nat} {w' : World}, xv = .slice base sLen sCap → sLen + m ≤ sCap → (match base with | some a => storeCells (a.add (sLen * ti.size)) us.toList | none => pure ()).run P w = .ok () w' → R (.slice base (sLen + m) sCap) w')
    (hgrw : ∀ {base : Option Addr} {sLen sCap : Nat} {old : Array Value}, xv = .slice base sLen sCap → sLen + m ≤ 1000000 → sCap < sLen + m → (∀ w', w'.heap = w.heap → (Builtin.firstCells ti.size sLen (.slice base sLen sCap)).run P w' = .ok old w') →
      ∃ c, sLen + m ≤ c ∧ ∀ {u : Value} {w' : World}, (do let a ← newRow e (old ++ us ++ Builtin.zeroCells z.cells (c - (sLen + m))); pure (.slice (some a) (sLen + m) c) : Sem Value).run P { w with drawn := w.drawn + 1 } = .ok u w' → R u w')
    (hnew : RVL ι new us.toList) (hnl : new.length = m * ti.size)
    (hr : appendB ti.size x m new h k s (2 * e + 2) = r) (n : s ≠ r) (S : Sim ι h w) (hx : RV ι x xv) : ∃ u w', R u w' ∧ PostK ι h w k r u w' := by
  unfold appendB at hr
  have hul := hnew.length
  have hul2 : us.toList.length = us.size := Array.length_toList
  rcases AV.onSlNul_inv hr n with ⟨g, ep0, i, len, cap, zz, ex, hr⟩ | ⟨t', ex, hr⟩
  · subst ex
    cases hx with
    | @sl _ _ _ _ o c _ _ l hl a1 a2 a3 a4 a5 a6 a7 =>
    rcases eqN_cases hr with ⟨hm, h9d⟩ | ⟨hm, hr⟩
    · subst hm
      have hr := h9d
      have hnil : us.toList = [] := List.length_eq_zero_iff.1 (by omega)
      exact ⟨_, w, hfit rfl a4 (by simp only [hnil, storeCells, Sem.run_pure]), PostK.same S hr (.sl hl a1 a2 a3 a4 a5 a6 a7)⟩
    · obtain ⟨ezz, h9⟩ := eqN_inv hr n
      subst ezz
      have hr := h9
      simp only [forceN_eq, Nat.add_eq, Nat.mul_eq, Nat.succ_eq_add_one] at hr
      obtain ⟨ct, L, ep, fl, mk, ho, hr⟩ := onCells_inv hr n
      obtain ⟨hmk, hr⟩ := le_inv hr n
      obtain ⟨hneed, hr⟩ := le_inv hr n
      have hsz : 0 < ti.size := Nat.pos_of_ne_zero hsz0
      have hmul : (len + m) * ti.size = len * ti.size + m * ti.size := Nat.add_mul _ _ _
      have hmpos : 0 < m * ti.size := Nat.mul_pos (Nat.pos_of_ne_zero hm) hsz
      have hnne : new ≠ [] := by intro hh; rw [hh] at hnl; simp at hnl; omega
      have hneed' : len + m ≤ 1000000 := hneed
      -- the group
      have hobj := S.obj g (S.small hl)
      rw [ho] at hobj
      obtain ⟨z1, z2, z3, z4⟩ := hobj
      have hin : ∀ (hc : len + m ≤ c) {hh : (i : Int) + l.d = (o : Int)} {w' : World}, (storeCells ⟨l.b, o + len * ti.size, none⟩ us.toList).run P w = .ok () w' → R (.slice (some ⟨l.b, o, none⟩) (len + m) c) w' := fun hc hh w' hst =>
        hfit rfl hc (by simp only [add_addr]; exact hst)
      have ho3 : 0 < c → (i : Int) + l.d = (o : Int) := fun hc => by rcases a3 with q | q <;> omega
      have hgrow : c < len + m → fl ≤ ep0 → i + len * ti.size ≤ l.hi → ∃ C c', len + m ≤ c' ∧ RVL ι (cellsL ct (len * ti.size) i) C ∧ ∀ {u : Value} {w' : World}, (do let a ← newRow e (C.toArray ++ us ++ Builtin.zeroCells z.cells (c' - (len + m))); pure (.slice (some a) (len + m) c') : Sem Value).run P { w with drawn := w.drawn + 1 } = .ok u w' → R u w' := by
        intro hc hfe hhi
        obtain ⟨hcc, _⟩ := S.cells hl ho hfe
        have hrow : ∃ C el fr, w.heap[l.b]? = some (.cells C el fr) ∧ (len * ti.size = 0 ∨ o + len * ti.size ≤ C.size) ∧ RVL ι (cellsL ct (len * ti.size) i) (C.extract o (o + len * ti.size)).toList := by
          rcases a3 with q | q
          · exact hcc.row q a1 hhi
          · have : len = 0 := by omega
            subst this
            obtain ⟨C, el, fr, b1, b2⟩ := hcc
            refine ⟨C, el, fr, b1, .inl (Nat.zero_mul _), ?_⟩
            simp only [Nat.zero_mul, Nat.add_zero, cellsL]
            rw [show (C.extract o o).toList = [] by simp]
            exact .nil
        obtain ⟨C, el, fr, b1, b2, b3⟩ := hrow
        obtain ⟨c', hc', hrun⟩ := hgrw (old := C.extract o (o + len * ti.size)) rfl hneed' hc (fun w' hw' => firstCells_run (by rw [hw']; exact b1) b2 _ _)
        exact ⟨_, c', hc', b3, fun hh => hrun (by rw [Array.toArray_toList] at hh; exact hh)⟩
      have hzc : ∀ q, (Builtin.zeroCells z.cells q).size = q * ti.size := fun q => by simp [Builtin.zeroCells, hzs]
      have hxs : ∀ {C : List Value} {c' : Nat}, RVL ι (cellsL ct (len * ti.size) i) C → len + m ≤ c' → c' * ti.size ≤ (C.toArray ++ us ++ Builtin.zeroCells z.cells (c' - (len + m))).size := by
        intro C c' hC hc'
        have e1 := hC.length
        rw [cellsL_length] at e1
        have e2 : (len + m) * ti.size + (c' - (len + m)) * ti.size = c' * ti.size := by rw [← Nat.add_mul]; congr 1; omega
        simp only [Array.size_append, hzc, List.size_toArray]
        omega
      cases cap with
      | none =>
        have hr : eqN ep0 ep _ s = r := hr
        obtain ⟨e1, h9a⟩ := eqN_inv hr n
        subst e1
        have hr := h9a
        obtain ⟨l', y1, y2, y3, hc⟩ := z4 ep0 z2 (Nat.le_refl _)
        rw [hl] at y1; cases y1
        replace y3 := y3 rfl
        have h7 := a7 rfl
        rcases le_cases hr with ⟨hend, hr⟩ | ⟨hend, hr⟩
        · obtain ⟨hall, hr⟩ := ifB_inv hr n
          rw [layCells_eq, H.put_eq] at hr
          have hend' : i + (len + m) * ti.size ≤ L := hend
          have hcm : (len + m) * ti.size ≤ c * ti.size := by omega
          have hc' : len + m ≤ c := Nat.le_of_mul_le_mul_right hcm hsz
          have hio := ho3 (by omega)
          obtain ⟨w', q1, q2, q3⟩ := S.lay (P := P) (vs := new) (us := us.toList) (i := i + len * ti.size) (o := o + len * ti.size) hl ho hmk (by push_cast; omega) (by omega) (by omega) hnew (rvl_one hnew hall)
          exact ⟨_, w', hin hc' (hh := hio) q1, _, _, _, hr, q2, .sl hl a1 (by show i + (len + m) * ti.size ≤ l.hi; omega) a3 hc' a5 (fun q hq => by cases hq) a7, q3⟩
        · obtain ⟨emk, h9b⟩ := eqN_inv hr n
          subst emk
          have hr := h9b
          obtain ⟨hall, hr⟩ := ifB_inv hr n
          rw [layCells_eq, H.put_eq, le_eq] at hr
          have hend' : L < i + (len + m) * ti.size := hend
          have hone := rvl_one hnew hall
          rcases Nat.lt_or_ge c (len + m) with hc' | hc'
          · obtain ⟨C, c', k1, k2, k3⟩ := hgrow hc' z2 (by omega)
            have k2l := k2.length
            rw [cellsL_length] at k2l
            have hX := hxs k2 k1
            obtain ⟨q2, q3⟩ := S.growNew (X := C.toArray ++ us ++ Builtin.zeroCells z.cells (c' - (len + m))) (el := e) (i := i) (at_ := i + len * ti.size) (old := C) (w' := { w with drawn := w.drawn + 1, heap := w.heap.push (.cells (C.toArray ++ us ++ Builtin.zeroCells z.cells (c' - (len + m))) e) }) hl ho (by omega) (by omega) hnne hnew (by rw [show i + len * ti.size - i = len * ti.size by omega]; exact k2)
              ⟨_, by rw [Array.toList_append, Array.toList_append]⟩ rfl ⟨rfl, rfl, rfl⟩
            have hfin : i + len * ti.size + new.length = i + (len + m) * ti.size := by omega
            rw [hfin] at q2 q3
            refine ⟨_, _, k3 rfl, _, _, _, hr, q2, ?_, q3⟩
            exact .sl (Inj.add_same _ _ _ _) (Nat.le_refl _) (Nat.le_refl _) (.inl (by show (i : Int) + -(i : Int) = ((0 : Nat) : Int); omega)) k1 (fun _ => by rw [Nat.zero_add]; exact hX) (fun q hq => by cases hq) (fun _ => by
              have := Nat.mul_le_mul_right ti.size k1
              show i + (len + m) * ti.size ≤ i + c' * ti.size; omega)
          · have hio := ho3 (by omega)
            have hcm : (len + m) * ti.size ≤ c * ti.size := Nat.mul_le_mul_right _ hc'
            have h5 := a5 (by omega)
            obtain ⟨w', q1, q2, q3⟩ := S.growIn (P := P) (at_ := i + len * ti.size) (p := o + len * ti.size) hl ho (by push_cast; omega) (by omega) (by omega) hnne (by omega) hnew hone (2 * e + 2)
            have hfin : i + len * ti.size + new.length = i + (len + m) * ti.size := by omega
            rw [hfin] at q2 q3
            refine ⟨_, w', hin hc' (hh := hio) q1, _, _, _, hr, q2, ?_, q3⟩
            exact RV.sl (l := ⟨l.b, l.d, l.lo, i + (len + m) * ti.size, l.top, undef⟩) (Inj.add_same _ _ _ _) a1 (Nat.le_refl _) (.inl hio) hc' (fun _ => h5) (fun q hq => by cases hq) (fun _ => by show i + (len + m) * ti.size ≤ i + c * ti.size; omega)
      | some q =>
        obtain ⟨q1, q2⟩ := a6 q rfl
        have h8 := hr
        subst q1
        have hr := h8
        rcases le_cases hr with ⟨hc', hr⟩ | ⟨hc', hr⟩
        · obtain ⟨e1, h9c⟩ := eqN_inv hr n
          subst e1
          have hr := h9c
          obtain ⟨hend, hr⟩ := le_inv hr n
          obtain ⟨hall, hr⟩ := ifB_inv hr n
          rw [layCells_eq, H.put_eq] at hr
          have hend' : i + (len + m) * ti.size ≤ L := hend
          have hc2 : len + m ≤ c := hc'
          have hio := ho3 (by omega)
          have hcm : (len + m) * ti.size ≤ c * ti.size := Nat.mul_le_mul_right _ hc2
          obtain ⟨w', g1, g2, g3⟩ := S.lay (P := P) (vs := new) (us := us.toList) (i := i + len * ti.size) (o := o + len * ti.size) hl ho hmk (by push_cast; omega) (by omega) (by omega) hnew (rvl_one hnew hall)
          exact ⟨_, w', hin hc2 (hh := hio) g1, _, _, _, hr, g2, .sl hl a1 (by show i + (len + m) * ti.size ≤ l.hi; omega) a3 hc2 a5 a6 a7, g3⟩
        · obtain ⟨hfe, hr⟩ := le_inv hr n
          rw [cellsFrom_eq, appL_eq] at hr
          have hc2 : c < len + m := hc'
          obtain ⟨C, c', k1, k2, k3⟩ := hgrow hc2 hfe (by omega)
          have hX := hxs k2 k1
          obtain ⟨w', g1, g2⟩ := newSlice_room (P := P) (X := C.toArray ++ us ++ Builtin.zeroCells z.cells (c' - (len + m))) hr n S (k2.append hnew) k1 (by rw [List.length_append, cellsL_length]; show _ = (len + m) * ti.size; omega) ⟨_, by rw [Array.toList_append, Array.toList_append]⟩ hX e (.inr rfl) (w1 := { w with drawn := w.drawn + 1 }) rfl rfl
          exact ⟨_, w', k3 (by simp only [Sem.run_bind, g1, Result.andThen, Sem.run_pure]), g2⟩
  · subst ex
    obtain ⟨hk, hr⟩ := ifB_inv hr n
    have := nkEq_inv hk
    subst this
    cases hx
    rcases eqN_cases hr with ⟨hm, h9d⟩ | ⟨hm, hr⟩
    · subst hm
      have hr := h9d
      exact ⟨_, w, hfit rfl (Nat.le_refl _) (by simp only [Sem.run_pure]), PostK.same S hr .nuls⟩
    · obtain ⟨hneed, hr⟩ := le_inv hr n
      have hm0 : 0 < m := Nat.pos_of_ne_zero hm
      obtain ⟨c', hc', hrun⟩ := hgrw (old := #[]) rfl (by omega) (by omega) (fun w' _ => rfl)
      have e2 : m * ti.size + (c' - m) * ti.size = c' * ti.size := by rw [← Nat.add_mul]; congr 1; omega
      obtain ⟨w', g1, g2⟩ := newSlice_room (P := P) (c := c') (X := #[] ++ us ++ Builtin.zeroCells z.cells (c' - (0 + m))) hr n S hnew (by omega) hnl ⟨(Builtin.zeroCells z.cells (c' - (0 + m))).toList, by simp⟩ (by
        simp only [Array.size_append, Builtin.zeroCells, Array.size_map, Array.size_range, hzs, Nat.zero_add, List.size_toArray, List.length_nil]
        omega) e (.inr rfl) (w1 := { w with drawn := w.drawn + 1 }) rfl rfl
      exact ⟨.slice (some ⟨w.heap.size, 0, none⟩) (0 + m) c', w', hrun (by simp only [Sem.run_bind, g1, Result.andThen, Sem.run_pure]), by rw [Nat.zero_add]; exact g2⟩
theorem append_core {ts : Array TypeId} {ty t e : TypeId} {ti : TypeInfo} {z : Value} {args : Array Value} (h0 : ts[0]? = some t) (ht : P.underlying t = some (.slice e)) {t1 : TypeId} {d1 : TypeDesc} (h1 : ts[1]? = some t1) (ht1 : P.underlying t1 = some d1)
    (hti : P.info? e = some ti) (hz : ti.zero = some z) (hb : ti.bytes ≤ 1000000) (hsz0 : ti.size ≠ 0) (hzs : z.cells.size = ti.size) {x : AV} {xv yv : Value} {m : Nat} {us : Array Value} {new : List AV} {k : AV → H → β} (ha0 : args[0]? = some xv) (ha1 : args[1]? = some yv) (hA : AppIn P ti z d1 yv m w us)
    (hnew : RVL ι new us.toList) (hnl : new.length = m * ti.size)
    (hr : appendB ti.size x m new h k s (2 * e + 2) = r) (n : s ≠ r) (S : Sim ι h w) (hx : RV ι x xv) : ∃ u w', (Builtin.append_ ts ty args).run P w = .ok u w' ∧ PostK ι h w k r u w' := by
  refine append_gen (P := P) (e := e) (z := z) hsz0 hzs (R := fun u w' => (Builtin.append_ ts ty args).run P w = .ok u w') (fun e1 e2 e3 => ?_) (fun e1 e2 e3 e4 => ?_) hnew hnl hr n S hx
  · subst e1
    exact append_fit h0 ht h1 ht1 ha0 ha1 hti hz hb hsz0 hA e2 e3
  · subst e1
    obtain ⟨c, q1, q2⟩ := append_grow (P := P) (w := w) (ty := ty) h0 ht h1 ht1 ha0 ha1 hti hz hb hsz0 hA e2 e3 e4
    exact ⟨c, q1, fun hh => q2.trans hh⟩
theorem append_ok {ts : Array TypeId} {ty t e : TypeId} {ti : TypeInfo} {z : Value} {args : Array Value} (h0 : ts[0]? = some t) (ht : P.underlying t = some (.slice e)) {t1 : TypeId} {d1 : TypeDesc} (h1 : ts[1]? = some t1) (ht1 : P.underlying t1 = some d1) (hd1 : ∀ q, d1 ≠ .int q)
    (hti : P.info? e = some ti) (hz : ti.zero = some z) (hb : ti.bytes ≤ 1000000) (hsz0 : ti.size ≠ 0) (hzs : z.cells.size = ti.size) {x y : AV} {xv yv : Value} {k : AV → H → β} (ha0 : args[0]? = some xv) (ha1 : args[1]? = some yv)
    (hr : appendA ti.size x y h k s (2 * e + 2) = r) (n : s ≠ r) (S : Sim ι h w) (hx : RV ι x xv) (hy : RV ι y yv) : ∃ u w', (Builtin.append_ ts ty args).run P w = .ok u w' ∧ PostK ι h w k r u w' := by
  unfold appendA at hr
  obtain ⟨m, hlen, hr⟩ := lenA_ok (P := P) (w := w) hr n hy
  obtain ⟨us, new, hus, hnew, hnl, hr⟩ := firstOf_ok (P := P) hr n S hy
  exact append_core h0 ht h1 ht1 hti hz hb hsz0 hzs ha0 ha1 (.inl ⟨hd1, hlen, hus⟩) hnew hnl hr n S hx
end
/-! ### Operators -/
section
variable {P : Program} {ι : Inj} {h : H} {w : World} {β : Type} {s r : β}
theorem bytesLess_tri : ∀ (a b : List UInt8), (!Op.bytesLess b a) = (Op.bytesLess a b || a == b)
  | [], [] => rfl
  | [], _ :: _ => rfl
  | _ :: _, [] => rfl
  | x :: a, y :: b => by
    have ih := bytesLess_tri a b
    simp only [Op.bytesLess]
    by_cases h1 : x < y
    · have h2 : ¬ y < x := by rw [UInt8.lt_iff_toNat_lt] at *; omega
      have h3 : ¬ y = x := by rintro rfl; exact h2 h1
      simp [h1, h2, h3]
    · by_cases h2 : y < x
      · have h3 : ¬ x = y := by rintro rfl; exact h1 h2
        simp [h1, h2, h3]
      · have h3 : x = y := by
          apply UInt8.toNat_inj.1
          rw [UInt8.lt_iff_toNat_lt] at *; omega
        subst h3
        simp only [h1, decide_false, beq_self_eq_true, Bool.false_or, Bool.true_and]
        rw [ih]
        simp
theorem ltS_str (a b : ByteArray) : ltS a.size (encS a) b.size (encS b) = Op.bytesLess a.toList b.toList := by
  rw [toList_eq, toList_eq, ← size_eq a, ← size_eq b, encS_eq, encS_eq]; exact ltS_ok _ _
theorem land_sub (a b p : Nat) : a - (a &&& b) < 2 ^ p ∨ ¬ a < 2 ^ p := by
  rcases Nat.lt_or_ge a (2 ^ p) with h | h
  · left; omega
  · right; omega
theorem andNot_toNat (n : Nat) (x y : BitVec n) : (x &&& ~~~y).toNat = x.toNat - (x.toNat &&& y.toNat) := by
  have h1 : (x &&& ~~~y) = x - (x &&& y) := by
    have : x = (x &&& ~~~y) + (x &&& y) := by
      rw [BitVec.add_eq_or_of_and_eq_zero _ _ (by ext i hi; simp; intro a b c; simp_all)]
      ext i hi
      simp
      cases x[i] <;> cases y[i] <;> rfl
    have h2 := congrArg (fun z => z - (x &&& y)) this
    simp only [BitVec.add_sub_cancel] at h2
    exact h2.symm
  have hle : (x.toNat &&& y.toNat) ≤ x.toNat := Nat.and_le_left
  rw [h1, BitVec.toNat_sub_of_le (by rw [BitVec.le_def, BitVec.toNat_and]; exact hle), BitVec.toNat_and]
theorem binC_ok {op : BinOp} {x y : AV} {xv yv : Value} {k : AV → β} (hr : (binC op).run β x y k s = r) (n : s ≠ r) (hx : RV ι x xv) (hy : RV ι y yv) (t : TypeId) : Bin P w ι (binOp op t xv yv) k r := by
  cases op with
  | add =>
    rcases symEither_or x y (symAddA x y k s) (addA x y k s) with e0 | e0
    · obtain ⟨a, b, v, ex, ey, hv, hk⟩ := symAddA_ok (ι := ι) (e0.symm.trans hr) n hx hy
      rw [ex, ey]
      exact ⟨_, v, by simp [binOp, Op.intArith]; try rfl, hv, hk⟩
    · exact add_ok (e0.symm.trans hr) n hx hy t
  | sub =>
    rcases symEither_or x y (symSubA x y k s) (arith Int.sub x y k s) with e0 | e0
    · obtain ⟨a, b, v, ex, ey, hv, hk⟩ := symSubA_ok (ι := ι) (e0.symm.trans hr) n hx hy
      rw [ex, ey]
      exact ⟨_, v, by simp [binOp, Op.intArith]; try rfl, hv, hk⟩
    · exact arith_ok (f := Int.sub) (op := .sub) (fun k a b => by simp [binOp, Op.intArith]; try rfl) (e0.symm.trans hr) n hx hy t (fun k a b => by simp [binOp])
  | mul => exact arith_ok (f := Int.mul) (op := .mul) (fun k a b => by simp [binOp, Op.intArith]; try rfl) hr n hx hy t (fun k a b => by simp [binOp])
  | quo => exact quo_ok hr n hx hy t
  | rem => exact rem_ok hr n hx hy t
  | and => exact bits_ok (fun n a b => a &&& b) (fun n a b => BitVec.toNat_and a b) (fun p x y h1 h2 => Nat.and_lt_two_pow x h2) (fun t k a b => by simp only [binOp, ne_eq, not_true, if_false]; rfl) hr n hx hy t
  | or => exact bits_ok (fun n a b => a ||| b) (fun n a b => BitVec.toNat_or a b) (fun p x y h1 h2 => Nat.or_lt_two_pow h1 h2) (fun t k a b => by simp only [binOp, ne_eq, not_true, if_false]; rfl) hr n hx hy t
  | xor => exact bits_ok (fun n a b => a ^^^ b) (fun n a b => BitVec.toNat_xor a b) (fun p x y h1 h2 => Nat.xor_lt_two_pow h1 h2) (fun t k a b => by simp only [binOp, ne_eq, not_true, if_false]; rfl) hr n hx hy t
  | andNot => exact bits_ok (fun n a b => a &&& ~~~b) (fun n a b => andNot_toNat n a b) (fun p x y h1 h2 => by show x - _ < _; omega) (fun t k a b => by simp only [binOp, ne_eq, not_true, if_false]; rfl) hr n hx hy t
  | shl => exact shl_ok hr n hx hy t
  | shr => exact shr_ok hr n hx hy t
  | eql => exact absurd hr n
  | neq => exact absurd hr n
  | lss =>
    rcases symEither_inv (show symEither _ _ _ _ = r from hr) with e0 | e0
    · obtain ⟨a, b, ex, ey, hc⟩ := symLtA_ok (ι := ι) e0 n hx hy
      rw [ex, ey]
      refine ⟨.bool (decide (a < b)), .bool (decide (a < b)), by simp only [binOp, ne_eq, not_true, if_false, Op.intCmp]; rfl, .bool _, ?_⟩
      rcases hc with ⟨c, hk⟩ | ⟨c, hk⟩
      · rw [decide_eq_true (by omega)]; exact hk
      · rw [decide_eq_false (by omega)]; exact hk
    · exact cmp_ok (fun t k a b => by simp only [binOp, ne_eq, not_true, if_false, Op.intCmp, ltI_ok]) (fun t a b => by simp only [binOp, Op.stringOp, ltS_str]) e0 n hx hy t
  | leq =>
    rcases symEither_inv (show symEither _ _ _ _ = r from hr) with e0 | e0
    · obtain ⟨b, a, ey, ex, hc⟩ := symLtA_ok (ι := ι) e0 n hy hx
      rw [ex, ey]
      refine ⟨.bool (decide (a ≤ b)), .bool (decide (a ≤ b)), by simp only [binOp, ne_eq, not_true, if_false, Op.intCmp]; rfl, .bool _, ?_⟩
      rcases hc with ⟨c, hk⟩ | ⟨c, hk⟩
      · rw [decide_eq_false (by omega)]; exact hk
      · rw [decide_eq_true (by omega)]; exact hk
    · exact cmp_ok (fun t k a b => by
        simp only [binOp, ne_eq, not_true, if_false, Op.intCmp, ltI_ok]
        congr 2
        by_cases h : b < a
        · simp [h, Int.not_le.2 h]
        · simp [h, Int.not_lt.1 h]) (fun t a b => by simp only [binOp, Op.stringOp, ltS_str, bytesLess_tri]) e0 n hx hy t
  | gtr =>
    rcases symEither_inv (show symEither _ _ _ _ = r from hr) with e0 | e0
    · obtain ⟨b, a, ey, ex, hc⟩ := symLtA_ok (ι := ι) e0 n hy hx
      rw [ex, ey]
      refine ⟨.bool (decide (a > b)), .bool (decide (a > b)), by simp only [binOp, ne_eq, not_true, if_false, Op.intCmp]; rfl, .bool _, ?_⟩
      rcases hc with ⟨c, hk⟩ | ⟨c, hk⟩
      · rw [decide_eq_true (by omega)]; exact hk
      · rw [decide_eq_false (by omega)]; exact hk
    · exact cmp_ok (fun t k a b => by simp only [binOp, ne_eq, not_true, if_false, Op.intCmp, ltI_ok, gt_iff_lt]) (fun t a b => by
        simp only [binOp, Op.stringOp, ltS_str, ← bytesLess_tri, Bool.not_not]) e0 n hx hy t
  | geq =>
    rcases symEither_inv (show symEither _ _ _ _ = r from hr) with e0 | e0
    · obtain ⟨a, b, ex, ey, hc⟩ := symLtA_ok (ι := ι) e0 n hx hy
      rw [ex, ey]
      refine ⟨.bool (decide (a ≥ b)), .bool (decide (a ≥ b)), by simp only [binOp, ne_eq, not_true, if_false, Op.intCmp]; rfl, .bool _, ?_⟩
      rcases hc with ⟨c, hk⟩ | ⟨c, hk⟩
      · rw [decide_eq_false (by omega)]; exact hk
      · rw [decide_eq_true (by omega)]; exact hk
    · exact cmp_ok (fun t k a b => by
        simp only [binOp, ne_eq, not_true, if_false, Op.intCmp, ltI_ok]
        congr 2
        by_cases h : a < b
        · simp [h]
        · simp [h, Int.not_lt.1 h]) (fun t a b => by simp only [binOp, Op.stringOp, ltS_str]) e0 n hx hy t
theorem unC_ok {op : UnOp} {x : AV} {xv : Value} {k : AV → β} (hr : (unC op).run β x k s = r) (n : s ≠ r) (hx : RV ι x xv) : Bin P w ι (Op.unary op xv) k r := by
  cases op with
  | not =>
    obtain ⟨b, ex, h1⟩ := AV.onBool_inv hr n
    subst ex
    rw [okB_eq] at h1
    rw [rv_bool hx]
    exact ⟨_, _, rfl, .bool _, h1⟩
  | neg =>
    obtain ⟨q, a, ex, h1⟩ := AV.onInt_inv hr n
    subst ex
    rw [forceI_eq, wrapC_ok] at h1
    rw [rv_int hx]
    exact ⟨_, _, rfl, .int _ _, h1⟩
  | xor =>
    obtain ⟨q, a, ex, h1⟩ := AV.onInt_inv hr n
    subst ex
    rw [rv_int hx]
    have h2 := binC_ok (P := P) (w := w) (ι := ι) (op := .xor) (k := k) (show (binC .xor).run β (.int q (bif q.signed then -1 else q.max)) (.int q a) k s = r from h1) n (.int _ _) (.int _ _) 0
    have e : binOp .xor 0 (.int q (bif q.signed then -1 else q.max)) (.int q a) = Op.unary .xor (.int q a) := by
      simp only [binOp, ne_eq, not_true, if_false, Op.unary, cond_eq_ite]
    rw [e] at h2
    exact h2
  | _ => exact absurd hr n
end
end
end Go.Proofs.YtenpnejkgopghaaDoor.AK
