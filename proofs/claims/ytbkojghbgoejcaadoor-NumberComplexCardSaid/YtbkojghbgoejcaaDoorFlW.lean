/- Proved: what number's functions on complex numbers answer, by the words of their parts. Conditions: each stands at its theorem. -/
import Derived.Test.YtbkojghbgoejcaaDoorFl
import Derived.Test.YtbkojghbgoejcaaDoorProg
import Derived.WalkKit
import Derived.KernelRfl
import Derived.WalkLawsBesides
import Derived.Laws.Externs
import Derived.Below
import Derived.Lib.Hide
namespace Go.Proofs.YtbkojghbgoejcaaDoor.FlW
open Go Go.RowKit

theorem run_bits (x : Nat) (w : World) : (callFunc 31 #[.float .f64 x]).run Tryd.prog w = .ok (.value (.int .u64 x)) w := by rfl
theorem run_frombits (x : Int) (w : World) : (callFunc 30 #[.int .u64 x]).run Tryd.prog w = .ok (.value (.float .f64 x.toNat)) w := by rfl

/-- The one word that is no number. -/
def nanw : Nat := 9221120237041090561
/-- A part that has come about: a number, or the one word that is none. -/
def fin (o : Option Nat) : Nat := o.getD nanw
def cl (x : Nat) : Nat := if Ieee.double.order x x = some .eq then x else nanw

theorem word_num (s : Bool) (r : Nat) (h : r ≤ Ieee.double.infRung) : (Ieee.double.read (Ieee.double.word s r)).isNaN = false := by
  have p5 : Ieee.double.infRung = 2047 * 2 ^ 52 := by decide
  have w1 : Ieee.double.signWeight = 2 ^ 63 := rfl
  rw [p5] at h
  have e : Ieee.double.word s r % 2 ^ 63 = r := by
    unfold Ieee.Format.word; rw [w1]; cases s
    · simp only [Bool.false_eq_true, if_false]; omega
    · simp only [if_true]; omega
  unfold Ieee.Format.read
  rw [w1, e, p5]
  dsimp only
  split
  · rfl
  · split
    · rfl
    · rw [if_pos (by omega)]; rfl

theorem order_self (x : Nat) (h : (Ieee.double.read x).isNaN = false) : Ieee.double.order x x = some .eq := by
  unfold Ieee.Format.order
  cases hx : Ieee.double.read x with
  | number s m i => simp only [Ieee.Datum.order]; congr 1; exact Std.compare_self
  | infinity s => simp only [Ieee.Datum.order]; congr 1; exact Std.compare_self
  | nan s t => rw [hx] at h; cases h

theorem write_num (d : Ieee.Datum) (h : d.isNaN = false) : Ieee.double.order (Ieee.double.write d) (Ieee.double.write d) = some .eq := by
  apply order_self
  cases d with
  | nan s t => cases h
  | infinity s => exact word_num s _ (Nat.le_refl _)
  | number s m i =>
    show (Ieee.double.read (Ieee.double.nearest s m i)).isNaN = false
    unfold Ieee.Format.nearest
    split
    · exact word_num s 0 (Nat.zero_le _)
    · exact word_num s _ (Nat.min_le_right _ _)

theorem sum_num (x y d : Ieee.Datum) (h : x.sum y = some d) : d.isNaN = false := by
  cases x <;> cases y <;> simp only [Ieee.Datum.sum] at h
  all_goals first | (cases h; done) | (cases h; rfl) | (split at h <;> first | (cases h; done) | (cases h; rfl))
theorem product_num (x y d : Ieee.Datum) (h : x.product y = some d) : d.isNaN = false := by
  cases x <;> cases y <;> simp only [Ieee.Datum.product] at h
  all_goals first | (cases h; done) | (cases h; rfl) | (split at h <;> first | (cases h; done) | (cases h; rfl))

theorem add_num {x y z : Nat} (h : Ieee.double.add x y = some z) : Ieee.double.order z z = some .eq := by
  unfold Ieee.Format.add at h
  obtain ⟨d, hd, rfl⟩ := Option.map_eq_some_iff.1 h
  exact write_num d (sum_num _ _ _ hd)
theorem sub_num {x y z : Nat} (h : Ieee.double.sub x y = some z) : Ieee.double.order z z = some .eq := by
  unfold Ieee.Format.sub at h
  obtain ⟨d, hd, rfl⟩ := Option.map_eq_some_iff.1 h
  exact write_num d (sum_num _ _ _ hd)
theorem mul_num {x y z : Nat} (h : Ieee.double.mul x y = some z) : Ieee.double.order z z = some .eq := by
  unfold Ieee.Format.mul at h
  obtain ⟨d, hd, rfl⟩ := Option.map_eq_some_iff.1 h
  exact write_num d (product_num _ _ _ hd)

theorem nan_word (s f : Nat) (hs : s < 2) (h : f < 2 ^ 52 - 1) : ∃ g, Ieee.double.read (s * 2 ^ 63 + 0x7ff0000000000000 + 1 + f) = .nan (s == 1) g := by
  have p5 : Ieee.double.infRung = 2047 * 2 ^ 52 := by decide
  have w1 : Ieee.double.signWeight = 2 ^ 63 := rfl
  have p4 : Ieee.double.binade = 2 ^ 52 := rfl
  unfold Ieee.Format.read
  rw [w1, p5, p4]
  have e1 : (s * 2 ^ 63 + 0x7ff0000000000000 + 1 + f) % 2 ^ 63 = 0x7ff0000000000000 + 1 + f := by omega
  have e2 : (s * 2 ^ 63 + 0x7ff0000000000000 + 1 + f) / 2 ^ 63 % 2 = s := by omega
  rw [e1, e2, if_neg (by omega), if_neg (by omega), if_neg (by omega)]
  exact ⟨_, rfl⟩

theorem nan_cut (x y t : Nat) : ∃ s f, Ieee.double.read ((Question.nanBits .f64 x y).cut t) = .nan s f := by
  obtain ⟨g, hg⟩ := nan_word (t % 2) ((t / 2) % (2 ^ 52 - 1)) (Nat.mod_lt _ (by omega)) (Nat.mod_lt _ (by omega))
  exact ⟨_, _, hg⟩

theorem order_nan {x : Nat} {s : Bool} {f : Nat} (h : Ieee.double.read x = .nan s f) : Ieee.double.order x x = none := by
  unfold Ieee.Format.order; rw [h]; rfl

theorem run_add (x y z : Nat) (h : Ieee.double.add x y = some z) (w : World) : (binOp .add 42 (.float .f64 x) (.float .f64 y)).run Tryd.prog w = .ok (.float .f64 z) w := by
  simp [binOp, Go.Op.floatArith, FloatKind.format, h, go_sem]
theorem run_sub (x y z : Nat) (h : Ieee.double.sub x y = some z) (w : World) : (binOp .sub 42 (.float .f64 x) (.float .f64 y)).run Tryd.prog w = .ok (.float .f64 z) w := by
  simp [binOp, Go.Op.floatArith, FloatKind.format, h, go_sem]
theorem run_mul (x y z : Nat) (h : Ieee.double.mul x y = some z) (w : World) : (binOp .mul 42 (.float .f64 x) (.float .f64 y)).run Tryd.prog w = .ok (.float .f64 z) w := by
  simp [binOp, Go.Op.floatArith, FloatKind.format, h, go_sem]

/-- A word that came of an operation without an answer. -/
structure Bad (z : Nat) : Prop where
  out : ∃ s f, Ieee.double.read z = .nan s f

theorem run_add_nan (x y : Nat) (h : Ieee.double.add x y = none) (w : World) : ∃ z, Bad z ∧ (binOp .add 42 (.float .f64 x) (.float .f64 y)).run Tryd.prog w = .ok (.float .f64 z) w.drew := by
  simp [binOp, Go.Op.floatArith, FloatKind.format, h, go_sem]
  exact ⟨nan_cut _ _ _⟩
theorem run_sub_nan (x y : Nat) (h : Ieee.double.sub x y = none) (w : World) : ∃ z, Bad z ∧ (binOp .sub 42 (.float .f64 x) (.float .f64 y)).run Tryd.prog w = .ok (.float .f64 z) w.drew := by
  simp [binOp, Go.Op.floatArith, FloatKind.format, h, go_sem]
  exact ⟨nan_cut _ _ _⟩
theorem run_mul_nan (x y : Nat) (h : Ieee.double.mul x y = none) (w : World) : ∃ z, Bad z ∧ (binOp .mul 42 (.float .f64 x) (.float .f64 y)).run Tryd.prog w = .ok (.float .f64 z) w.drew := by
  simp [binOp, Go.Op.floatArith, FloatKind.format, h, go_sem]
  exact ⟨nan_cut _ _ _⟩

theorem part_any (x : Nat) (w : World) : Calls Tryd.prog 47 #[.float .f64 x] w fun e w' => e = .returned (.float .f64 (cl x)) ∧ w = w' := by
  have hb := run_frombits
  unfold cl
  by_cases h : Ieee.double.order x x = some .eq
  · have h2 : (FloatKind.f64.format.order x x != some Ordering.eq) = false := by
      rw [bne_eq_false_iff_eq]; exact h
    rw [if_pos h]
    clear h
    go_enter Tryd.func47, Tryd.ntmps47
    go_wp2
    go_ret
    exact ⟨rfl, rfl⟩
  · have h2 : (FloatKind.f64.format.order x x != some Ordering.eq) = true := by
      rw [bne_iff_ne]; exact h
    rw [if_neg h]
    clear h
    go_enter Tryd.func47, Tryd.ntmps47
    go_wp2
    go_ret
    exact ⟨rfl, rfl⟩

theorem made_any (x y : Nat) (w : World) : Calls Tryd.prog 36 #[.float .f64 x, .float .f64 y] w fun e w' => e = .returned (.complex .f64 (cl x) (cl y)) ∧ w = w' := by
  go_enter Tryd.func36, Tryd.ntmps36
  go_wp2_with (first | (go_at_call 47; (with_reducible refine (part_any _ _).mono ?_); rintro e w' ⟨rfl, rfl⟩))
  go_ret
  exact ⟨rfl, rfl⟩

theorem cl_bad {z : Nat} (h : Bad z) : cl z = nanw := by
  obtain ⟨s, f, h⟩ := h.out
  unfold cl; rw [order_nan h]; rfl
theorem cl_add {x y z : Nat} (h : Ieee.double.add x y = some z) : cl z = z := by unfold cl; rw [if_pos (add_num h)]
theorem cl_sub {x y z : Nat} (h : Ieee.double.sub x y = some z) : cl z = z := by unfold cl; rw [if_pos (sub_num h)]

/-- The world is the old one but for what was drawn. -/
structure Dr (w w' : World) : Prop where
  out : ∃ n, w' = w.drewN n
theorem Dr.refl (w : World) : Dr w w := ⟨0, rfl⟩
theorem Dr.drew {w w' : World} (h : Dr w w') : Dr w w'.drew := by
  obtain ⟨n, rfl⟩ := h.out
  exact ⟨n + 1, rfl⟩
theorem Dr.drewN {w w' : World} (h : Dr w w') (m : Nat) : Dr w (w'.drewN m) := by
  obtain ⟨n, rfl⟩ := h.out
  exact ⟨n + m, World.drewN_drewN ..⟩
theorem Dr.trans {w w' w'' : World} (h : Dr w w') (h' : Dr w' w'') : Dr w w'' := by
  obtain ⟨n, rfl⟩ := h'.out
  exact h.drewN n
theorem Dr.below {w w' : World} (h : Dr w w') : Below w.heap.size w w' := by
  obtain ⟨⟨n, rfl⟩⟩ := h
  induction n with
  | zero => exact Below.refl _ _
  | succ n ih => rw [← World.drew_drewN]; exact ih.drew

/-- An operation of two words in every world: its answer, or a word that is no number and one draw. -/
theorem run_add_any (x y : Nat) : (∃ z, Ieee.double.add x y = some z ∧ ∀ w, (binOp .add 42 (.float .f64 x) (.float .f64 y)).run Tryd.prog w = .ok (.float .f64 z) w) ∨
    (Ieee.double.add x y = none ∧ ∃ Z : World → Nat, (∀ w, Bad (Z w)) ∧ ∀ w, (binOp .add 42 (.float .f64 x) (.float .f64 y)).run Tryd.prog w = .ok (.float .f64 (Z w)) w.drew) := by
  cases h : Ieee.double.add x y with
  | some z => exact .inl ⟨z, rfl, run_add x y z h⟩
  | none => exact .inr ⟨rfl, fun w => (run_add_nan x y h w).choose, fun w => (run_add_nan x y h w).choose_spec.1, fun w => (run_add_nan x y h w).choose_spec.2⟩
theorem run_sub_any (x y : Nat) : (∃ z, Ieee.double.sub x y = some z ∧ ∀ w, (binOp .sub 42 (.float .f64 x) (.float .f64 y)).run Tryd.prog w = .ok (.float .f64 z) w) ∨
    (Ieee.double.sub x y = none ∧ ∃ Z : World → Nat, (∀ w, Bad (Z w)) ∧ ∀ w, (binOp .sub 42 (.float .f64 x) (.float .f64 y)).run Tryd.prog w = .ok (.float .f64 (Z w)) w.drew) := by
  cases h : Ieee.double.sub x y with
  | some z => exact .inl ⟨z, rfl, run_sub x y z h⟩
  | none => exact .inr ⟨rfl, fun w => (run_sub_nan x y h w).choose, fun w => (run_sub_nan x y h w).choose_spec.1, fun w => (run_sub_nan x y h w).choose_spec.2⟩

theorem addc_any (a b c d : Nat) (w : World) : Calls Tryd.prog 12 #[.complex .f64 a b, .complex .f64 c d] w fun e w' => e = .returned (.complex .f64 (fin (Ieee.double.add a c)) (fin (Ieee.double.add b d))) ∧ Dr w w' := by
  rcases run_add_any a c with ⟨z1, e1, r1⟩ | ⟨e1, Z1, b1, r1⟩ <;> rcases run_add_any b d with ⟨z2, e2, r2⟩ | ⟨e2, Z2, b2, r2⟩
  all_goals
    have E1 := Lib.hid e1
    have E2 := Lib.hid e2
    clear e1 e2
    go_enter Tryd.func12, Tryd.ntmps12
    go_wp2_with (first | (go_at_call 36; (with_reducible refine (made_any _ _ _).mono ?_); rintro e w' ⟨rfl, rfl⟩))
    go_ret
    refine ⟨?_, by repeat (first | exact Dr.refl _ | apply Dr.drew)⟩
    rw [E1.out, E2.out]
    first | rw [cl_add E1.out, cl_add E2.out] | rw [cl_add E1.out, cl_bad (b2 _)] | rw [cl_bad (b1 _), cl_add E2.out] | rw [cl_bad (b1 _), cl_bad (b2 _)]
    rfl

theorem subc_any (a b c d : Nat) (w : World) : Calls Tryd.prog 14 #[.complex .f64 a b, .complex .f64 c d] w fun e w' => e = .returned (.complex .f64 (fin (Ieee.double.sub a c)) (fin (Ieee.double.sub b d))) ∧ Dr w w' := by
  rcases run_sub_any a c with ⟨z1, e1, r1⟩ | ⟨e1, Z1, b1, r1⟩ <;> rcases run_sub_any b d with ⟨z2, e2, r2⟩ | ⟨e2, Z2, b2, r2⟩
  all_goals
    have E1 := Lib.hid e1
    have E2 := Lib.hid e2
    clear e1 e2
    go_enter Tryd.func14, Tryd.ntmps14
    go_wp2_with (first | (go_at_call 36; (with_reducible refine (made_any _ _ _).mono ?_); rintro e w' ⟨rfl, rfl⟩))
    go_ret
    refine ⟨?_, by repeat (first | exact Dr.refl _ | apply Dr.drew)⟩
    rw [E1.out, E2.out]
    first | rw [cl_sub E1.out, cl_sub E2.out] | rw [cl_sub E1.out, cl_bad (b2 _)] | rw [cl_bad (b1 _), cl_sub E2.out] | rw [cl_bad (b1 _), cl_bad (b2 _)]
    rfl

/-- The word is what an operation told, or no number where it told nothing. -/
structure Rep (z : Nat) (o : Option Nat) : Prop where
  out : (o = some z ∧ Ieee.double.order z z = some .eq) ∨ (o = none ∧ Bad z)
theorem Rep.cl {z : Nat} {o : Option Nat} (h : Rep z o) : cl z = fin o := by
  rcases h.out with ⟨rfl, h2⟩ | ⟨rfl, h2⟩
  · unfold FlW.cl; rw [if_pos h2]; rfl
  · rw [cl_bad h2]; rfl
def lift (f : Nat → Nat → Option Nat) (a b : Option Nat) : Option Nat := a.bind fun x => b.bind fun y => f x y
theorem sub_lift {x y : Nat} {a b : Option Nat} (ha : Rep x a) (hb : Rep y b) : Ieee.double.sub x y = lift Ieee.double.sub a b := by
  rcases ha.out with ⟨rfl, h1⟩ | ⟨rfl, h1⟩
  · rcases hb.out with ⟨rfl, h2⟩ | ⟨rfl, h2⟩
    · rfl
    · obtain ⟨s, f, h⟩ := h2.out
      unfold Ieee.Format.sub; rw [h]
      cases Ieee.double.read x <;> rfl
  · obtain ⟨s, f, h⟩ := h1.out
    unfold Ieee.Format.sub; rw [h]
    cases Ieee.double.read y <;> rfl
theorem add_lift {x y : Nat} {a b : Option Nat} (ha : Rep x a) (hb : Rep y b) : Ieee.double.add x y = lift Ieee.double.add a b := by
  rcases ha.out with ⟨rfl, h1⟩ | ⟨rfl, h1⟩
  · rcases hb.out with ⟨rfl, h2⟩ | ⟨rfl, h2⟩
    · rfl
    · obtain ⟨s, f, h⟩ := h2.out
      unfold Ieee.Format.add; rw [h]
      cases Ieee.double.read x <;> rfl
  · obtain ⟨s, f, h⟩ := h1.out
    unfold Ieee.Format.add; rw [h]
    cases Ieee.double.read y <;> rfl

theorem run_add_all : ∃ (Z : Nat → Nat → World → Nat) (V : Nat → Nat → World → World), (∀ x y w, Rep (Z x y w) (Ieee.double.add x y)) ∧ (∀ x y w, Dr w (V x y w)) ∧
    ∀ x y w, (binOp .add 42 (.float .f64 x) (.float .f64 y)).run Tryd.prog w = .ok (.float .f64 (Z x y w)) (V x y w) := by
  have h : ∀ x y w, ∃ p : Nat × World, Rep p.1 (Ieee.double.add x y) ∧ Dr w p.2 ∧ (binOp .add 42 (.float .f64 x) (.float .f64 y)).run Tryd.prog w = .ok (.float .f64 p.1) p.2 := by
    intro x y w
    cases h : Ieee.double.add x y with
    | some z => exact ⟨(z, w), ⟨.inl ⟨rfl, add_num h⟩⟩, Dr.refl _, run_add x y z h w⟩
    | none =>
      obtain ⟨z, hz, hr⟩ := run_add_nan x y h w
      exact ⟨(z, w.drew), ⟨.inr ⟨rfl, hz⟩⟩, (Dr.refl _).drew, hr⟩
  exact ⟨fun x y w => (h x y w).choose.1, fun x y w => (h x y w).choose.2, fun x y w => (h x y w).choose_spec.1, fun x y w => (h x y w).choose_spec.2.1, fun x y w => (h x y w).choose_spec.2.2⟩

theorem run_sub_all : ∃ (Z : Nat → Nat → World → Nat) (V : Nat → Nat → World → World), (∀ x y w, Rep (Z x y w) (Ieee.double.sub x y)) ∧ (∀ x y w, Dr w (V x y w)) ∧
    ∀ x y w, (binOp .sub 42 (.float .f64 x) (.float .f64 y)).run Tryd.prog w = .ok (.float .f64 (Z x y w)) (V x y w) := by
  have h : ∀ x y w, ∃ p : Nat × World, Rep p.1 (Ieee.double.sub x y) ∧ Dr w p.2 ∧ (binOp .sub 42 (.float .f64 x) (.float .f64 y)).run Tryd.prog w = .ok (.float .f64 p.1) p.2 := by
    intro x y w
    cases h : Ieee.double.sub x y with
    | some z => exact ⟨(z, w), ⟨.inl ⟨rfl, sub_num h⟩⟩, Dr.refl _, run_sub x y z h w⟩
    | none =>
      obtain ⟨z, hz, hr⟩ := run_sub_nan x y h w
      exact ⟨(z, w.drew), ⟨.inr ⟨rfl, hz⟩⟩, (Dr.refl _).drew, hr⟩
  exact ⟨fun x y w => (h x y w).choose.1, fun x y w => (h x y w).choose.2, fun x y w => (h x y w).choose_spec.1, fun x y w => (h x y w).choose_spec.2.1, fun x y w => (h x y w).choose_spec.2.2⟩

theorem run_mul_all : ∃ (Z : Nat → Nat → World → Nat) (V : Nat → Nat → World → World), (∀ x y w, Rep (Z x y w) (Ieee.double.mul x y)) ∧ (∀ x y w, Dr w (V x y w)) ∧
    ∀ x y w, (binOp .mul 42 (.float .f64 x) (.float .f64 y)).run Tryd.prog w = .ok (.float .f64 (Z x y w)) (V x y w) := by
  have h : ∀ x y w, ∃ p : Nat × World, Rep p.1 (Ieee.double.mul x y) ∧ Dr w p.2 ∧ (binOp .mul 42 (.float .f64 x) (.float .f64 y)).run Tryd.prog w = .ok (.float .f64 p.1) p.2 := by
    intro x y w
    cases h : Ieee.double.mul x y with
    | some z => exact ⟨(z, w), ⟨.inl ⟨rfl, mul_num h⟩⟩, Dr.refl _, run_mul x y z h w⟩
    | none =>
      obtain ⟨z, hz, hr⟩ := run_mul_nan x y h w
      exact ⟨(z, w.drew), ⟨.inr ⟨rfl, hz⟩⟩, (Dr.refl _).drew, hr⟩
  exact ⟨fun x y w => (h x y w).choose.1, fun x y w => (h x y w).choose.2, fun x y w => (h x y w).choose_spec.1, fun x y w => (h x y w).choose_spec.2.1, fun x y w => (h x y w).choose_spec.2.2⟩

/-- The parts of a product. -/
def mulRe (p q r s : Nat) : Nat := fin (lift Ieee.double.sub (Ieee.double.mul p r) (Ieee.double.mul q s))
def mulIm (p q r s : Nat) : Nat := fin (lift Ieee.double.add (Ieee.double.mul p s) (Ieee.double.mul q r))
theorem mulc_any (p q r s : Nat) (w : World) : Calls Tryd.prog 16 #[.complex .f64 p q, .complex .f64 r s] w fun e w' => e = .returned (.complex .f64 (mulRe p q r s) (mulIm p q r s)) ∧ Dr w w' := by
  obtain ⟨Za, Va, ra, da, ha⟩ := run_add_all
  obtain ⟨Zs, Vs, rs, ds, hs⟩ := run_sub_all
  obtain ⟨Zm, Vm, rm, dm, hm⟩ := run_mul_all
  have Ra := Lib.hid ra
  have Rs := Lib.hid rs
  have Rm := Lib.hid rm
  have Da := Lib.hid da
  have Ds := Lib.hid ds
  have Dm := Lib.hid dm
  clear ra rs rm da ds dm
  go_enter Tryd.func16, Tryd.ntmps16
  go_wp2_with (first | (go_at_call 36; (with_reducible refine (made_any _ _ _).mono ?_); rintro e w' ⟨rfl, rfl⟩))
  go_ret
  refine ⟨?_, ?_⟩
  · rw [(Rs.out _ _ _).cl, (Ra.out _ _ _).cl, sub_lift (Rm.out _ _ _) (Rm.out _ _ _), add_lift (Rm.out _ _ _) (Rm.out _ _ _)]
    rfl
  · repeat (first | exact Dr.refl _ | refine Dr.trans ?_ (Da.out _ _ _) | refine Dr.trans ?_ (Ds.out _ _ _) | refine Dr.trans ?_ (Dm.out _ _ _))

theorem words_any (p q : Nat) (w : World) : Calls Tryd.prog 35 #[.complex .f64 p q] w fun e w' => e = .returned (.tuple #[.int .u64 p, .int .u64 q]) ∧ w = w' := by
  have hb := run_bits
  go_enter Tryd.func35, Tryd.ntmps35
  go_wp2
  go_ret2
  exact ⟨rfl, rfl⟩

theorem same_any (p q r s : Nat) (w : World) : Calls Tryd.prog 10 #[.complex .f64 p q, .complex .f64 r s] w fun e w' => e = .returned (.bool (decide (p = r) && decide (q = s))) ∧ w = w' := by
  cases h1 : ((p : Int) == r) <;> cases h2 : ((q : Int) == s)
  all_goals
    have e1 : decide (p = r) = ((p : Int) == r) := by rw [Bool.eq_iff_iff]; simp; omega
    have e2 : decide (q = s) = ((q : Int) == s) := by rw [Bool.eq_iff_iff]; simp; omega
    rw [e1, e2, h1, h2]
    clear e1 e2
    go_enter Tryd.func10, Tryd.ntmps10
    go_wp2_with (first | (go_at_call 35; (with_reducible refine (words_any _ _ _).mono ?_); rintro e w' ⟨rfl, rfl⟩))
    go_ret
    exact ⟨rfl, rfl⟩

/-- The word of a whole number. -/
def F (n : Int) : Nat := FloatKind.f64.nearest n
theorem val_F (n : Int) (h : n.natAbs < 2 ^ 53) : Fl.Val (F n) n := Fl.val_int n h
theorem run_conv (n : Int) (w : World) : (convert 3 42 (.int .i64 n)).run Tryd.prog w = .ok (.float .f64 (F n)) w := by
  have e1 : Tryd.prog.underlying 3 = some (.int .i64) := Tryd.underlying3
  have e2 : Tryd.prog.underlying 42 = some (.float .f64) := Tryd.underlying42
  simp [convert, run_underlying e1, run_underlying e2, Go.Conv.intToFloat, F, go_sem]
theorem run_eqc (a b c d : Nat) (h1 : Ieee.double.order a c = some .eq) (h2 : Ieee.double.order b d = some .eq) (w : World) :
    (binOp .eql 23 (.complex .f64 a b) (.complex .f64 c d)).run Tryd.prog w = .ok (.bool true) w := by
  simp [binOp, Go.Op.complexOp, Go.Op.Complex.cmp, Go.Op.floatCmp, FloatKind.format, h1, h2, go_sem]
end Go.Proofs.YtbkojghbgoejcaaDoor.FlW
