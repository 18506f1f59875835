/- Proved: what elenchusref1.Parse answers. Conditions: each stands at its theorem. -/
import Derived.Test.YtbkojghbgoejcaaDoorPrA
import Derived.Test.YtbkojghbgoejcaaDoorProg
import Derived.Below
import Derived.Deep.Draws
import Derived.Deep.AppendLies
import Derived.Maps.AppendAt
import Derived.OwnWalk
import Derived.Laws.BytesArg
import Derived.Laws.MakeOwn
import Derived.Laws.OwnMore
import Derived.Deep.OwnRows
import Derived.Tactics
import Derived.Lib.ConvBytes
import Derived.Laws.Slices
import Derived.WalkKit
import Derived.KernelRfl
import Derived.RowKit3
import Derived.Deep.LoopGhost
import Derived.Deep.QuietTactic
import Derived.BigQuiet
import Derived.WideLaws
import Derived.Deep.DeepCutAuto
import Derived.Deep.CutBlock
import Derived.Deep.RegionHeld3
import Derived.Laws.Rows
import Derived.Lib.AppendStr
import Derived.ArgAppend
import Derived.Laws.IdiomCopy
import Derived.OrdersHeld
import Derived.Laws.BitsLemmas
import Derived.RowKit
import Derived.Test.YtbkojghbgoejcaaDoorWWords
import Derived.Test.YtbkojghbgoejcaaDoorWLast
import Derived.Test.YtbkojghbgoejcaaDoorWTab
import Derived.Test.YtbkojghbgoejcaaDoorWFour
import Derived.Test.YtbkojghbgoejcaaDoorWQPut
import Derived.Test.YtbkojghbgoejcaaDoorWApart
import Derived.Test.YtbkojghbgoejcaaDoorWArr
import Derived.Test.YtbkojghbgoejcaaDoorWZeros
import Derived.Test.YtbkojghbgoejcaaDoorWFoot
import Derived.Test.YtbkojghbgoejcaaDoorWKept
import Derived.Test.YtbkojghbgoejcaaDoorWShare
import Derived.Test.YtbkojghbgoejcaaDoorWN
import Derived.Test.YtbkojghbgoejcaaDoorWFootNe
import Derived.Test.YtbkojghbgoejcaaDoorWAt
import Derived.Test.YtbkojghbgoejcaaDoorWEqStruct
import Derived.Test.YtbkojghbgoejcaaDoorWRepsOne
import Derived.Test.YtbkojghbgoejcaaDoorWInv
import Derived.Test.YtbkojghbgoejcaaDoorWInvWords
import Derived.Test.YtbkojghbgoejcaaDoorWGuard
import Derived.Test.YtbkojghbgoejcaaDoorWNEv
import Derived.Test.YtbkojghbgoejcaaDoorWMore
namespace Go.Proofs.YtbkojghbgoejcaaDoor.Pr
open Go.RowKit Go.Proofs.YtbkojghbgoejcaaDoorW.PrintWords Go.Proofs.YtbkojghbgoejcaaDoorW.PrintLast Go.Proofs.YtbkojghbgoejcaaDoorW.PrintMore
attribute [local go_sem] max2_int min2_int max_two min_two max_three min_three max_four min_four
set_option linter.unusedVariables false
set_option linter.unusedSimpArgs false


/-! ### elenchusref1_Parse: function 24 -/
mutual
def elenchusref1_Parse.j0 : Nat → ByteArray → ByteArray → Bool → Option (Int × Int)
  | 0, _, _, _ => none
  | k + 1, x0, x4, x16 => if x16 = true then (if 1 ≤ (x4.size : Int) then (elenchusref1_Parse.j1 k x0 (x4.extract 1 x4.size)) else (none)) else (elenchusref1_Parse.j1 k x0 x4)
def elenchusref1_Parse.j1 : Nat → ByteArray → ByteArray → Option (Int × Int)
  | 0, _, _ => none
  | k + 1, x0, x4 => if x4.toList = ([] : List UInt8) then (elenchusref1_Parse.j2 k x0 x4 true) else (if 0 < (x4.size : Int) then (if (bt x4 0) = 48 then (elenchusref1_Parse.j2 k x0 x4 (x0.toList != ([48] : List UInt8))) else (elenchusref1_Parse.j2 k x0 x4 false)) else (none))
def elenchusref1_Parse.j2 : Nat → ByteArray → ByteArray → Bool → Option (Int × Int)
  | 0, _, _, _ => none
  | k + 1, x0, x4, x29 => if x29 = true then (some (0, 2)) else (elenchusref1_Parse.l0 k x0 x4 (x4.size : Int) 0)
def elenchusref1_Parse.l0 : Nat → ByteArray → ByteArray → Int → Int → Option (Int × Int)
  | 0, _, _, _, _ => none
  | k + 1, x0, x4, x31, x32 => if x32 < x31 then (if 0 ≤ x32 then (if x32 < (x4.size : Int) then (if (bt x4 x32) < 48 then (some (0, 2)) else (if (bt x4 x32) > 57 then (some (0, 2)) else (elenchusref1_Parse.l0 k x0 x4 x31 (wrap64 (x32 + 1))))) else (none)) else (none)) else (if (x4.size : Int) > 19 then (some (0, 6)) else (elenchusref1_Parse.l1 k x0 x4 0 (x4.size : Int) 0))
def elenchusref1_Parse.l1 : Nat → ByteArray → ByteArray → Int → Int → Int → Option (Int × Int)
  | 0, _, _, _, _, _ => none
  | k + 1, x0, x4, x6, x50, x51 => if x51 < x50 then (if 0 ≤ x51 then (if x51 < (x4.size : Int) then (elenchusref1_Parse.l1 k x0 x4 (IntKind.u64.wrap ((IntKind.u64.wrap (10 * x6)) + (((bt x4 x51) - 48) % 256))) x50 (wrap64 (x51 + 1))) else (none)) else (none)) else (if 0 < (x0.size : Int) then (if (bt x0 0) = 45 then (elenchusref1_Parse.j5 k x0 x6 (decide (x6 ≤ 9223372036854775808))) else (elenchusref1_Parse.j5 k x0 x6 false)) else (none))
def elenchusref1_Parse.j5 : Nat → ByteArray → Int → Bool → Option (Int × Int)
  | 0, _, _, _ => none
  | k + 1, x0, x6, x63 => if x63 = true then (some (wrap64 (IntKind.u64.wrap (-x6)), 0)) else (if 0 < (x0.size : Int) then (if (bt x0 0) = 45 then (some (0, 6)) else (if x6 < 9223372036854775808 then (some (wrap64 (x6), 0)) else (some (0, 6)))) else (none))
end
def elenchusref1_Parse.f (k : Nat) (a0 : ByteArray) : Option (Int × Int) := if (a0.size : Int) > 0 then (if 0 < (a0.size : Int) then (elenchusref1_Parse.j0 k a0 a0 ((bt a0 0) == 45)) else (none)) else (elenchusref1_Parse.j0 k a0 a0 false)
theorem elenchusref1_Parse.mono_l : ∀ k, (∀ y0 y1 y2, LeO (elenchusref1_Parse.j0 k y0 y1 y2) (elenchusref1_Parse.j0 (k + 1) y0 y1 y2)) ∧ (∀ y0 y1, LeO (elenchusref1_Parse.j1 k y0 y1) (elenchusref1_Parse.j1 (k + 1) y0 y1)) ∧ (∀ y0 y1 y2, LeO (elenchusref1_Parse.j2 k y0 y1 y2) (elenchusref1_Parse.j2 (k + 1) y0 y1 y2)) ∧ (∀ y0 y1 y2 y3, LeO (elenchusref1_Parse.l0 k y0 y1 y2 y3) (elenchusref1_Parse.l0 (k + 1) y0 y1 y2 y3)) ∧ (∀ y0 y1 y2 y3 y4, LeO (elenchusref1_Parse.l1 k y0 y1 y2 y3 y4) (elenchusref1_Parse.l1 (k + 1) y0 y1 y2 y3 y4)) ∧ (∀ y0 y1 y2, LeO (elenchusref1_Parse.j5 k y0 y1 y2) (elenchusref1_Parse.j5 (k + 1) y0 y1 y2))
  | 0 => ⟨fun _ _ _ r h => by simp [elenchusref1_Parse.j0] at h, fun _ _ r h => by simp [elenchusref1_Parse.j1] at h, fun _ _ _ r h => by simp [elenchusref1_Parse.j2] at h, fun _ _ _ _ r h => by simp [elenchusref1_Parse.l0] at h, fun _ _ _ _ _ r h => by simp [elenchusref1_Parse.l1] at h, fun _ _ _ r h => by simp [elenchusref1_Parse.j5] at h⟩
  | k + 1 => by
    obtain ⟨ih0, ih1, ih2, ih3, ih4, ih5⟩ := elenchusref1_Parse.mono_l k
    refine ⟨?_, ?_, ?_, ?_, ?_, ?_⟩
    · intro y0 y1 y2
      unfold elenchusref1_Parse.j0
      repeat' first
      | (with_reducible exact ih0 _ _ _)
      | (with_reducible exact ih1 _ _)
      | (with_reducible exact ih2 _ _ _)
      | (with_reducible exact ih3 _ _ _ _)
      | (with_reducible exact ih4 _ _ _ _ _)
      | (with_reducible exact ih5 _ _ _)
      | (with_reducible exact LeO.refl _)
      | (with_reducible exact LeO.none _)
      | (with_reducible refine LeO.ite ?_ ?_)
      | (with_reducible refine LeO.bind ?_ (fun _ => ?_))
      | exact ih0 _ _ _
      | exact ih1 _ _
      | exact ih2 _ _ _
      | exact ih3 _ _ _ _
      | exact ih4 _ _ _ _ _
      | exact ih5 _ _ _
      | exact LeO.none _
      | refine LeO.ite ?_ ?_
      | refine LeO.bind ?_ (fun _ => ?_)
    · intro y0 y1
      unfold elenchusref1_Parse.j1
      repeat' first
      | (with_reducible exact ih0 _ _ _)
      | (with_reducible exact ih1 _ _)
      | (with_reducible exact ih2 _ _ _)
      | (with_reducible exact ih3 _ _ _ _)
      | (with_reducible exact ih4 _ _ _ _ _)
      | (with_reducible exact ih5 _ _ _)
      | (with_reducible exact LeO.refl _)
      | (with_reducible exact LeO.none _)
      | (with_reducible refine LeO.ite ?_ ?_)
      | (with_reducible refine LeO.bind ?_ (fun _ => ?_))
      | exact ih0 _ _ _
      | exact ih1 _ _
      | exact ih2 _ _ _
      | exact ih3 _ _ _ _
      | exact ih4 _ _ _ _ _
      | exact ih5 _ _ _
      | exact LeO.none _
      | refine LeO.ite ?_ ?_
      | refine LeO.bind ?_ (fun _ => ?_)
    · intro y0 y1 y2
      unfold elenchusref1_Parse.j2
      repeat' first
      | (with_reducible exact ih0 _ _ _)
      | (with_reducible exact ih1 _ _)
      | (with_reducible exact ih2 _ _ _)
      | (with_reducible exact ih3 _ _ _ _)
      | (with_reducible exact ih4 _ _ _ _ _)
      | (with_reducible exact ih5 _ _ _)
      | (with_reducible exact LeO.refl _)
      | (with_reducible exact LeO.none _)
      | (with_reducible refine LeO.ite ?_ ?_)
      | (with_reducible refine LeO.bind ?_ (fun _ => ?_))
      | exact ih0 _ _ _
      | exact ih1 _ _
      | exact ih2 _ _ _
      | exact ih3 _ _ _ _
      | exact ih4 _ _ _ _ _
      | exact ih5 _ _ _
      | exact LeO.none _
      | refine LeO.ite ?_ ?_
      | refine LeO.bind ?_ (fun _ => ?_)
    · intro y0 y1 y2 y3
      unfold elenchusref1_Parse.l0
      repeat' first
      | (with_reducible exact ih0 _ _ _)
      | (with_reducible exact ih1 _ _)
      | (with_reducible exact ih2 _ _ _)
      | (with_reducible exact ih3 _ _ _ _)
      | (with_reducible exact ih4 _ _ _ _ _)
      | (with_reducible exact ih5 _ _ _)
      | (with_reducible exact LeO.refl _)
      | (with_reducible exact LeO.none _)
      | (with_reducible refine LeO.ite ?_ ?_)
      | (with_reducible refine LeO.bind ?_ (fun _ => ?_))
      | exact ih0 _ _ _
      | exact ih1 _ _
      | exact ih2 _ _ _
      | exact ih3 _ _ _ _
      | exact ih4 _ _ _ _ _
      | exact ih5 _ _ _
      | exact LeO.none _
      | refine LeO.ite ?_ ?_
      | refine LeO.bind ?_ (fun _ => ?_)
    · intro y0 y1 y2 y3 y4
      unfold elenchusref1_Parse.l1
      repeat' first
      | (with_reducible exact ih0 _ _ _)
      | (with_reducible exact ih1 _ _)
      | (with_reducible exact ih2 _ _ _)
      | (with_reducible exact ih3 _ _ _ _)
      | (with_reducible exact ih4 _ _ _ _ _)
      | (with_reducible exact ih5 _ _ _)
      | (with_reducible exact LeO.refl _)
      | (with_reducible exact LeO.none _)
      | (with_reducible refine LeO.ite ?_ ?_)
      | (with_reducible refine LeO.bind ?_ (fun _ => ?_))
      | exact ih0 _ _ _
      | exact ih1 _ _
      | exact ih2 _ _ _
      | exact ih3 _ _ _ _
      | exact ih4 _ _ _ _ _
      | exact ih5 _ _ _
      | exact LeO.none _
      | refine LeO.ite ?_ ?_
      | refine LeO.bind ?_ (fun _ => ?_)
    · intro y0 y1 y2
      unfold elenchusref1_Parse.j5
      repeat' first
      | (with_reducible exact ih0 _ _ _)
      | (with_reducible exact ih1 _ _)
      | (with_reducible exact ih2 _ _ _)
      | (with_reducible exact ih3 _ _ _ _)
      | (with_reducible exact ih4 _ _ _ _ _)
      | (with_reducible exact ih5 _ _ _)
      | (with_reducible exact LeO.refl _)
      | (with_reducible exact LeO.none _)
      | (with_reducible refine LeO.ite ?_ ?_)
      | (with_reducible refine LeO.bind ?_ (fun _ => ?_))
      | exact ih0 _ _ _
      | exact ih1 _ _
      | exact ih2 _ _ _
      | exact ih3 _ _ _ _
      | exact ih4 _ _ _ _ _
      | exact ih5 _ _ _
      | exact LeO.none _
      | refine LeO.ite ?_ ?_
      | refine LeO.bind ?_ (fun _ => ?_)
theorem elenchusref1_Parse.mono : ∀ a0 k, LeO (elenchusref1_Parse.f k a0) (elenchusref1_Parse.f (k + 1) a0) := by
  intro a0 k
  obtain ⟨ih0, ih1, ih2, ih3, ih4, ih5⟩ := elenchusref1_Parse.mono_l k
  unfold elenchusref1_Parse.f
  repeat' first
      | (with_reducible exact ih0 _ _ _)
      | (with_reducible exact ih1 _ _)
      | (with_reducible exact ih2 _ _ _)
      | (with_reducible exact ih3 _ _ _ _)
      | (with_reducible exact ih4 _ _ _ _ _)
      | (with_reducible exact ih5 _ _ _)
      | (with_reducible exact LeO.refl _)
      | (with_reducible exact LeO.none _)
      | (with_reducible refine LeO.ite ?_ ?_)
      | (with_reducible refine LeO.bind ?_ (fun _ => ?_))
      | exact ih0 _ _ _
      | exact ih1 _ _
      | exact ih2 _ _ _
      | exact ih3 _ _ _ _
      | exact ih4 _ _ _ _ _
      | exact ih5 _ _ _
      | exact LeO.none _
      | refine LeO.ite ?_ ?_
      | refine LeO.bind ?_ (fun _ => ?_)
set_option maxHeartbeats 8000000 in
set_option maxRecDepth 100000 in
theorem elenchusref1_Parse.calls (k : Nat) (a0 : ByteArray) (r1 : Int) (r2 : Int) (w : World) (h : elenchusref1_Parse.f k a0 = some (r1, r2)) :
    Calls Tryd.prog 24 #[.string a0] w fun e w' => e = .returned (.tuple #[.int .i64 r1, .int .i64 r2]) ∧ Drawn0 w w' := by
  have H : (if (a0.size : Int) > 0 then (if 0 < (a0.size : Int) then (elenchusref1_Parse.j0 k a0 a0 ((bt a0 0) == 45)) else (none)) else (elenchusref1_Parse.j0 k a0 a0 false)) = some (r1, r2) := h
  clear h
  have HC2 := Aside0.mk H
  clear H
  go_enter Tryd.func24, Tryd.ntmps24
  go_upto_region 2 with (fail)
  go_cut [16] (fun v16 wc => ∃ (kq : Nat) (x16_1 : Bool), v16 = .bool x16_1 ∧ Aside0 (elenchusref1_Parse.j0 kq a0 a0 x16_1 = some (r1, r2)) ∧ Aside0 (kq ≤ k) ∧ Drawn0 w wc)
  case first =>
    have H := HC2.out
    clear HC2
    by_cases c3 : (a0.size : Int) > 0
    · rw [if_pos c3] at H
      have c3b0 : decide (0 < (a0.size : Int)) = true := decide_eq_true c3
      have c3b1 : decide (0 < a0.size) = true := decide_eq_true (by omega)
      clear c3
      (first | rw [c3b0] | (simp only [i64_w, i32_w]; rw [c3b0]) | skip)
      by_cases c4 : 0 < (a0.size : Int)
      · rw [if_pos c4] at H
        have c4b0 : decide (0 < (a0.size : Int)) = true := decide_eq_true c4
        have c4b1 : decide (0 < a0.size) = true := decide_eq_true (by omega)
        clear c4
        have H' := Aside0.mk H
        clear H
        have p5 : 0 ≤ (0 : Int) := (by omega)
        have q5 : 0 < a0.size := (by have : (0 : Int) < (a0.size : Int) := of_decide_eq_true (by first | (with_reducible assumption) | assumption); omega)
        have hx5 : ∀ h : 0 < a0.size, ((a0[0]'h).toNat : Int) = bt a0 0 := bt_at a0 0
        clear p5
        have qi5 : (0 < (a0.size : Int)) = True := eq_true (of_decide_eq_true (by first | (with_reducible assumption) | assumption))
        replace q5 := eq_true q5
        go_wp2
        go_meet
        case rel => exact ⟨_, (((bt a0 0) == 45)), (by first | rfl | (simp; done) | (simp [*]; done)), H', ⟨by first | omega | exact Nat.le_refl _⟩, by repeat (first | exact Drawn0.refl _ | apply Drawn0.step)⟩
      · rw [if_neg c4] at H
        exact absurd H (by simp)
    · rw [if_neg c3] at H
      have c3b0 : decide (0 < (a0.size : Int)) = false := decide_eq_false c3
      have c3b1 : decide (0 < a0.size) = false := decide_eq_false (by omega)
      clear c3
      (first | rw [c3b0] | (simp only [i64_w, i32_w]; rw [c3b0]) | skip)
      have H' := Aside0.mk H
      clear H
      go_wp2
      go_meet
      case rel => exact ⟨_, (false), (by first | rfl | (simp; done) | (simp [*]; done)), H', ⟨by first | omega | exact Nat.le_refl _⟩, by repeat (first | exact Drawn0.refl _ | apply Drawn0.step)⟩
  case rest =>
    clear HC2
    try clear c2
    try clear p2
    try clear c3
    try clear c3b0
    try clear c3b1
    try clear c4
    try clear c4b0
    try clear c4b1
    try clear p5
    try clear q5
    try clear hx5
    try clear qi5
    try clear p5
    try clear q5
    obtain ⟨kq, x16_1, rfl, HA, HJ1, ⟨mc1, rfl⟩⟩ := hcut
    cases kq with
    | zero => exact absurd HA.out (by simp [elenchusref1_Parse.j0])
    | succ kj1 =>
      have H := HA.out
      clear HA
      simp only [elenchusref1_Parse.j0] at H
      have HC6 := Aside0.mk H
      clear H
      go_upto_if 16 with (fail)
      go_cut [4] (fun v4 wc => ∃ (kq : Nat) (x4_5 : ByteArray), v4 = .string x4_5 ∧ Aside0 (elenchusref1_Parse.j1 kq a0 x4_5 = some (r1, r2)) ∧ Aside0 (kq ≤ kj1) ∧ Drawn0 w wc)
      case first =>
        have H := HC6.out
        clear HC6
        by_cases c7 : x16_1 = true
        · subst c7
          have H1 : (if 1 ≤ (a0.size : Int) then (elenchusref1_Parse.j1 kj1 a0 (a0.extract 1 a0.size)) else (none)) = some (r1, r2) := by rw [if_pos rfl] at H; exact H
          clear H
          have H := H1
          clear H1
          by_cases c8 : 1 ≤ (a0.size : Int)
          · rw [if_pos c8] at H
            have c8b0 := eq_true c8
            have c8b1 : decide (1 ≤ (a0.size : Int)) = true := decide_eq_true c8
            clear c8
            have H' := Aside0.mk H
            clear H
            go_wp2
            go_meet
            case rel => exact ⟨_, (a0.extract 1 a0.size), (by first | rfl | (simp; done) | (simp [*]; done)), H', ⟨by have := HJ1.out; first | omega | exact Nat.le_refl _⟩, by repeat (first | exact Drawn0.refl _ | apply Drawn0.step)⟩
          · rw [if_neg c8] at H
            exact absurd H (by simp)
        · replace c7 := Bool.eq_false_iff.mpr c7
          subst c7
          have H1 : (elenchusref1_Parse.j1 kj1 a0 a0) = some (r1, r2) := by rw [if_neg (show ¬ (false = true) by decide)] at H; exact H
          clear H
          have H := H1
          clear H1
          have H' := Aside0.mk H
          clear H
          go_wp2
          go_meet
          case rel => exact ⟨_, (a0), (by first | rfl | (simp; done) | (simp [*]; done)), H', ⟨by have := HJ1.out; first | omega | exact Nat.le_refl _⟩, by repeat (first | exact Drawn0.refl _ | apply Drawn0.step)⟩
      case rest =>
        clear HC6
        try clear c1
        try clear c2
        try clear p2
        try clear c3
        try clear c3b0
        try clear c3b1
        try clear c4
        try clear c4b0
        try clear c4b1
        try clear p5
        try clear q5
        try clear hx5
        try clear qi5
        try clear c7
        try clear c8
        try clear c8b0
        try clear c8b1
        try clear p2
        try clear p5
        try clear q5
        obtain ⟨kq, x4_5, rfl, HA, HJ5, ⟨mc5, rfl⟩⟩ := hcut
        cases kq with
        | zero => exact absurd HA.out (by simp [elenchusref1_Parse.j1])
        | succ kj5 =>
          have H := HA.out
          clear HA
          simp only [elenchusref1_Parse.j1] at H
          have HC9 := Aside0.mk H
          clear H
          go_upto_region 4 with (fail)
          go_cut [29] (fun v29 wc => ∃ (kq : Nat) (x29_8 : Bool), v29 = .bool x29_8 ∧ Aside0 (elenchusref1_Parse.j2 kq a0 x4_5 x29_8 = some (r1, r2)) ∧ Aside0 (kq ≤ kj5) ∧ Drawn0 w wc)
          case first =>
            have H := HC9.out
            clear HC9
            by_cases c10 : x4_5.toList = ([] : List UInt8)
            · rw [if_pos c10] at H
              have c10b0 : (x4_5.toList == ([] : List UInt8)) = true := beq_iff_eq.mpr c10
              have c10b1 : (x4_5.toList != ([] : List UInt8)) = false := bne_eq_false_iff_eq.mpr c10
              clear c10
              (first | rw [c10b0] | (simp only [i64_w, i32_w]; rw [c10b0]) | skip)
              have H' := Aside0.mk H
              clear H
              go_wp2
              go_meet
              case rel => exact ⟨_, (true), (by first | rfl | (simp; done) | (simp [*]; done)), H', ⟨by have := HJ1.out; have := HJ5.out; first | omega | exact Nat.le_refl _⟩, by repeat (first | exact Drawn0.refl _ | apply Drawn0.step)⟩
            · rw [if_neg c10] at H
              have c10b0 : (x4_5.toList == ([] : List UInt8)) = false := beq_eq_false_iff_ne.mpr c10
              have c10b1 : (x4_5.toList != ([] : List UInt8)) = true := bne_iff_ne.mpr c10
              (first | rw [c10b0] | (simp only [i64_w, i32_w]; rw [c10b0]) | skip)
              by_cases c11 : 0 < (x4_5.size : Int)
              · rw [if_pos c11] at H
                have c11b0 : decide (0 < (x4_5.size : Int)) = true := decide_eq_true c11
                have c11b1 : decide (0 < x4_5.size) = true := decide_eq_true (by omega)
                clear c11
                by_cases c13 : (bt x4_5 0) = 48
                · rw [if_pos c13] at H
                  have c13b0 : ((bt x4_5 0) == 48) = true := beq_iff_eq.mpr c13
                  have c13b1 : ((bt x4_5 0) != 48) = false := bne_eq_false_iff_eq.mpr c13
                  clear c13
                  have H' := Aside0.mk H
                  clear H
                  have p12 : 0 ≤ (0 : Int) := (by omega)
                  have q12 : 0 < x4_5.size := (by have : (0 : Int) < (x4_5.size : Int) := of_decide_eq_true (by first | (with_reducible assumption) | assumption); omega)
                  have hx12 : ∀ h : 0 < x4_5.size, ((x4_5[0]'h).toNat : Int) = bt x4_5 0 := bt_at x4_5 0
                  clear p12
                  have qi12 : (0 < (x4_5.size : Int)) = True := eq_true (of_decide_eq_true (by first | (with_reducible assumption) | assumption))
                  replace q12 := eq_true q12
                  go_wp2
                  go_meet
                  case rel => exact ⟨_, ((a0.toList != ([48] : List UInt8))), (by first | rfl | (simp; done) | (simp [*]; done)), H', ⟨by have := HJ1.out; have := HJ5.out; first | omega | exact Nat.le_refl _⟩, by repeat (first | exact Drawn0.refl _ | apply Drawn0.step)⟩
                · rw [if_neg c13] at H
                  have c13b0 : ((bt x4_5 0) == 48) = false := beq_eq_false_iff_ne.mpr c13
                  have c13b1 : ((bt x4_5 0) != 48) = true := bne_iff_ne.mpr c13
                  have H' := Aside0.mk H
                  clear H
                  have p12 : 0 ≤ (0 : Int) := (by omega)
                  have q12 : 0 < x4_5.size := (by have : (0 : Int) < (x4_5.size : Int) := of_decide_eq_true (by first | (with_reducible assumption) | assumption); omega)
                  have hx12 : ∀ h : 0 < x4_5.size, ((x4_5[0]'h).toNat : Int) = bt x4_5 0 := bt_at x4_5 0
                  clear p12
                  have qi12 : (0 < (x4_5.size : Int)) = True := eq_true (of_decide_eq_true (by first | (with_reducible assumption) | assumption))
                  replace q12 := eq_true q12
                  go_wp2
                  go_meet
                  case rel => exact ⟨_, (false), (by first | rfl | (simp; done) | (simp [*]; done)), H', ⟨by have := HJ1.out; have := HJ5.out; first | omega | exact Nat.le_refl _⟩, by repeat (first | exact Drawn0.refl _ | apply Drawn0.step)⟩
              · rw [if_neg c11] at H
                exact absurd H (by simp)
          case rest =>
            clear HC9
            try clear c1
            try clear p1
            try clear q1
            try clear hx1
            try clear qi1
            try clear c2
            try clear p2
            try clear c3
            try clear c3b0
            try clear c3b1
            try clear c4
            try clear c4b0
            try clear c4b1
            try clear c5
            try clear p5
            try clear q5
            try clear hx5
            try clear qi5
            try clear c7
            try clear c8
            try clear c8b0
            try clear c8b1
            try clear c10
            try clear c10b0
            try clear c10b1
            try clear c11
            try clear c11b0
            try clear c11b1
            try clear p12
            try clear q12
            try clear hx12
            try clear qi12
            try clear c13
            try clear c13b0
            try clear c13b1
            try clear p12
            try clear p2
            try clear p5
            try clear q12
            try clear q5
            obtain ⟨kq, x29_8, rfl, HA, HJ8, ⟨mc8, rfl⟩⟩ := hcut
            cases kq with
            | zero => exact absurd HA.out (by simp [elenchusref1_Parse.j2])
            | succ kj8 =>
              have H := HA.out
              clear HA
              simp only [elenchusref1_Parse.j2] at H
              by_cases c14 : x29_8 = true
              · subst c14
                have H1 : (some (0, 2)) = some (r1, r2) := by rw [if_pos rfl] at H; exact H
                clear H
                have H := H1
                clear H1
                simp only [Option.some.injEq, Prod.mk.injEq] at H
                obtain ⟨rfl, rfl⟩ := H
                go_wp2
                go_ret2
                exact ⟨by first | rfl | (simp; done) | (simp [*]; done), by repeat (first | exact Drawn0.refl _ | apply Drawn0.step)⟩
              · replace c14 := Bool.eq_false_iff.mpr c14
                subst c14
                have H1 : (elenchusref1_Parse.l0 kj8 a0 x4_5 (x4_5.size : Int) 0) = some (r1, r2) := by rw [if_neg (show ¬ (false = true) by decide)] at H; exact H
                clear H
                have H := H1
                clear H1
                have H' := Aside0.mk H
                clear H
                go_wp2
                go_loopg [32] kj8 (fun kq v32 w' => ∃ (x32_4 : Int), v32 = .int .i64 x32_4 ∧ Aside0 (elenchusref1_Parse.l0 kq a0 x4_5 (x4_5.size : Int) x32_4 = some (r1, r2)) ∧ Aside0 (kq ≤ kj8) ∧ Drawn0 w w')
                case atStart => exact ⟨(0), (by first | rfl | (simp; done) | (simp [*]; done)), H', ⟨Nat.le_refl _⟩, by repeat (first | exact Drawn0.refl _ | apply Drawn0.step)⟩
                case round =>
                  clear H'
                  try clear c1
                  try clear p1
                  try clear q1
                  try clear hx1
                  try clear qi1
                  try clear c2
                  try clear p2
                  try clear c3
                  try clear c3b0
                  try clear c3b1
                  try clear c4
                  try clear c4b0
                  try clear c4b1
                  try clear c5
                  try clear p5
                  try clear q5
                  try clear hx5
                  try clear qi5
                  try clear c7
                  try clear c8
                  try clear c8b0
                  try clear c8b1
                  try clear c10
                  try clear c10b0
                  try clear c10b1
                  try clear c11
                  try clear c11b0
                  try clear c11b1
                  try clear p12
                  try clear q12
                  try clear hx12
                  try clear qi12
                  try clear c13
                  try clear c13b0
                  try clear c13b1
                  try clear c14
                  try clear p1
                  try clear p12
                  try clear p2
                  try clear p5
                  try clear q1
                  try clear q12
                  try clear q5
                  obtain ⟨x32_4, rfl, HA, HK4, ⟨m4, rfl⟩⟩ := hrel
                  cases gk with
                  | zero => exact absurd HA.out (by simp [elenchusref1_Parse.l0])
                  | succ k4 =>
                    have H := HA.out
                    clear HA
                    simp only [elenchusref1_Parse.l0] at H
                    by_cases c15 : x32_4 < (x4_5.size : Int)
                    · rw [if_pos c15] at H
                      have c15b0 : decide (x32_4 < (x4_5.size : Int)) = true := decide_eq_true c15
                      clear c15
                      by_cases c16 : 0 ≤ x32_4
                      · rw [if_pos c16] at H
                        have c16b0 : decide (0 ≤ x32_4) = true := decide_eq_true c16
                        clear c16
                        by_cases c17 : x32_4 < (x4_5.size : Int)
                        · rw [if_pos c17] at H
                          have c17b0 : decide (x32_4 < (x4_5.size : Int)) = true := decide_eq_true c17
                          clear c17
                          by_cases c19 : (bt x4_5 x32_4) < 48
                          · rw [if_pos c19] at H
                            have c19b0 : decide ((bt x4_5 x32_4) < 48) = true := decide_eq_true c19
                            clear c19
                            simp only [Option.some.injEq, Prod.mk.injEq] at H
                            obtain ⟨rfl, rfl⟩ := H
                            have p18 : 0 ≤ (x32_4 : Int) := of_decide_eq_true (by first | (with_reducible assumption) | assumption)
                            have q18 : x32_4 < (x4_5.size : Int) := of_decide_eq_true (by first | (with_reducible assumption) | assumption)
                            have hx18 := bt_at x4_5 x32_4
                            replace p18 := eq_true p18
                            replace q18 := eq_true q18
                            go_wp2
                            go_ret2
                            exact ⟨by first | rfl | (simp; done) | (simp [*]; done), by repeat (first | exact Drawn0.refl _ | apply Drawn0.step)⟩
                          · rw [if_neg c19] at H
                            have c19b0 : decide ((bt x4_5 x32_4) < 48) = false := decide_eq_false c19
                            clear c19
                            by_cases c21 : (bt x4_5 x32_4) > 57
                            · rw [if_pos c21] at H
                              have c21b0 : decide (57 < (bt x4_5 x32_4)) = true := decide_eq_true c21
                              clear c21
                              simp only [Option.some.injEq, Prod.mk.injEq] at H
                              obtain ⟨rfl, rfl⟩ := H
                              have p18 : 0 ≤ (x32_4 : Int) := of_decide_eq_true (by first | (with_reducible assumption) | assumption)
                              have q18 : x32_4 < (x4_5.size : Int) := of_decide_eq_true (by first | (with_reducible assumption) | assumption)
                              have hx18 := bt_at x4_5 x32_4
                              replace p18 := eq_true p18
                              replace q18 := eq_true q18
                              have p20 : 0 ≤ (x32_4 : Int) := of_decide_eq_true (by first | (with_reducible assumption) | assumption)
                              have q20 : x32_4 < (x4_5.size : Int) := of_decide_eq_true (by first | (with_reducible assumption) | assumption)
                              have hx20 := bt_at x4_5 x32_4
                              replace p20 := eq_true p20
                              replace q20 := eq_true q20
                              go_wp2
                              go_ret2
                              exact ⟨by first | rfl | (simp; done) | (simp [*]; done), by repeat (first | exact Drawn0.refl _ | apply Drawn0.step)⟩
                            · rw [if_neg c21] at H
                              have c21b0 : decide (57 < (bt x4_5 x32_4)) = false := decide_eq_false c21
                              clear c21
                              have H' := Aside0.mk H
                              clear H
                              have p18 : 0 ≤ (x32_4 : Int) := of_decide_eq_true (by first | (with_reducible assumption) | assumption)
                              have q18 : x32_4 < (x4_5.size : Int) := of_decide_eq_true (by first | (with_reducible assumption) | assumption)
                              have hx18 := bt_at x4_5 x32_4
                              replace p18 := eq_true p18
                              replace q18 := eq_true q18
                              have p20 : 0 ≤ (x32_4 : Int) := of_decide_eq_true (by first | (with_reducible assumption) | assumption)
                              have q20 : x32_4 < (x4_5.size : Int) := of_decide_eq_true (by first | (with_reducible assumption) | assumption)
                              have hx20 := bt_at x4_5 x32_4
                              replace p20 := eq_true p20
                              replace q20 := eq_true q20
                              go_wp2
                              go_roundg k4
                              case measure => have := HJ1.out; have := HJ5.out; have := HJ8.out; have := HK4.out; omega
                              case rel => exact ⟨(wrap64 (x32_4 + 1)), (by first | rfl | (simp; done) | (simp [*]; done)), H', ⟨by have := HJ1.out; have := HJ5.out; have := HJ8.out; have := HK4.out; omega⟩, by repeat (first | exact Drawn0.refl _ | apply Drawn0.step)⟩
                        · rw [if_neg c17] at H
                          exact absurd H (by simp)
                      · rw [if_neg c16] at H
                        exact absurd H (by simp)
                    · rw [if_neg c15] at H
                      have c15b0 : decide (x32_4 < (x4_5.size : Int)) = false := decide_eq_false c15
                      clear c15
                      by_cases c22 : (x4_5.size : Int) > 19
                      · rw [if_pos c22] at H
                        have c22b0 : decide (19 < (x4_5.size : Int)) = true := decide_eq_true c22
                        have c22b1 : decide (19 < x4_5.size) = true := decide_eq_true (by omega)
                        clear c22
                        simp only [Option.some.injEq, Prod.mk.injEq] at H
                        obtain ⟨rfl, rfl⟩ := H
                        go_wp2
                        go_ret2
                        exact ⟨by first | rfl | (simp; done) | (simp [*]; done), by repeat (first | exact Drawn0.refl _ | apply Drawn0.step)⟩
                      · rw [if_neg c22] at H
                        have c22b0 : decide (19 < (x4_5.size : Int)) = false := decide_eq_false c22
                        have c22b1 : decide (19 < x4_5.size) = false := decide_eq_false (by omega)
                        clear c22
                        have H' := Aside0.mk H
                        clear H
                        go_wp2
                        go_loopg [6, 51] k4 (fun kq v6 v51 w' => ∃ (x6_5 : Int) (x51_5 : Int), v6 = .int .u64 x6_5 ∧ v51 = .int .i64 x51_5 ∧ Aside0 (elenchusref1_Parse.l1 kq a0 x4_5 x6_5 (x4_5.size : Int) x51_5 = some (r1, r2)) ∧ Aside0 (kq ≤ k4) ∧ Drawn0 w w')
                        case atStart => exact ⟨(0), (0), (by first | rfl | (simp; done) | (simp [*]; done)), (by first | rfl | (simp; done) | (simp [*]; done)), H', ⟨Nat.le_refl _⟩, by repeat (first | exact Drawn0.refl _ | apply Drawn0.step)⟩
                        case round =>
                          clear H'
                          try clear c1
                          try clear p1
                          try clear q1
                          try clear hx1
                          try clear qi1
                          try clear c2
                          try clear p2
                          try clear q2
                          try clear hx2
                          try clear c3
                          try clear c3b0
                          try clear c3b1
                          try clear c4
                          try clear c4b0
                          try clear c4b1
                          try clear c5
                          try clear p5
                          try clear q5
                          try clear hx5
                          try clear qi5
                          try clear p6
                          try clear c7
                          try clear c8
                          try clear c8b0
                          try clear c8b1
                          try clear c10
                          try clear c10b0
                          try clear c10b1
                          try clear c11
                          try clear c11b0
                          try clear c11b1
                          try clear p12
                          try clear q12
                          try clear hx12
                          try clear qi12
                          try clear c13
                          try clear c13b0
                          try clear c13b1
                          try clear c14
                          try clear c15
                          try clear c15b0
                          try clear c16
                          try clear c16b0
                          try clear c17
                          try clear c17b0
                          try clear p18
                          try clear q18
                          try clear hx18
                          try clear c19
                          try clear c19b0
                          try clear p20
                          try clear q20
                          try clear hx20
                          try clear c21
                          try clear c21b0
                          try clear c22
                          try clear c22b0
                          try clear c22b1
                          try clear p1
                          try clear p12
                          try clear p18
                          try clear p2
                          try clear p20
                          try clear p5
                          try clear q1
                          try clear q12
                          try clear q18
                          try clear q20
                          try clear q5
                          obtain ⟨x6_5, x51_5, rfl, rfl, HA, HK5, ⟨m5, rfl⟩⟩ := hrel
                          cases gk with
                          | zero => exact absurd HA.out (by simp [elenchusref1_Parse.l1])
                          | succ k5 =>
                            have H := HA.out
                            clear HA
                            simp only [elenchusref1_Parse.l1] at H
                            by_cases c23 : x51_5 < (x4_5.size : Int)
                            · rw [if_pos c23] at H
                              have c23b0 : decide (x51_5 < (x4_5.size : Int)) = true := decide_eq_true c23
                              clear c23
                              by_cases c24 : 0 ≤ x51_5
                              · rw [if_pos c24] at H
                                have c24b0 : decide (0 ≤ x51_5) = true := decide_eq_true c24
                                clear c24
                                by_cases c25 : x51_5 < (x4_5.size : Int)
                                · rw [if_pos c25] at H
                                  have c25b0 : decide (x51_5 < (x4_5.size : Int)) = true := decide_eq_true c25
                                  clear c25
                                  have H' := Aside0.mk H
                                  clear H
                                  have p26 : 0 ≤ (x51_5 : Int) := of_decide_eq_true (by first | (with_reducible assumption) | assumption)
                                  have q26 : x51_5 < (x4_5.size : Int) := of_decide_eq_true (by first | (with_reducible assumption) | assumption)
                                  have hx26 := bt_at x4_5 x51_5
                                  replace p26 := eq_true p26
                                  replace q26 := eq_true q26
                                  go_wp2
                                  go_roundg k5
                                  case measure => have := HJ1.out; have := HJ5.out; have := HJ8.out; have := HK4.out; have := HK5.out; omega
                                  case rel => exact ⟨(IntKind.u64.wrap ((IntKind.u64.wrap (10 * x6_5)) + (((bt x4_5 x51_5) - 48) % 256))), (wrap64 (x51_5 + 1)), (by first | rfl | (simp; done) | (simp [*]; done)), (by first | rfl | (simp; done) | (simp [*]; done)), H', ⟨by have := HJ1.out; have := HJ5.out; have := HJ8.out; have := HK4.out; have := HK5.out; omega⟩, by repeat (first | exact Drawn0.refl _ | apply Drawn0.step)⟩
                                · rw [if_neg c25] at H
                                  exact absurd H (by simp)
                              · rw [if_neg c24] at H
                                exact absurd H (by simp)
                            · rw [if_neg c23] at H
                              have c23b0 : decide (x51_5 < (x4_5.size : Int)) = false := decide_eq_false c23
                              clear c23
                              have HC27 := Aside0.mk H
                              clear H
                              go_upto_region 20 with (fail)
                              go_cut [63] (fun v63 wc => ∃ (kq : Nat) (x63_26 : Bool), v63 = .bool x63_26 ∧ Aside0 (elenchusref1_Parse.j5 kq a0 x6_5 x63_26 = some (r1, r2)) ∧ Aside0 (kq ≤ k5) ∧ Drawn0 w wc)
                              case first =>
                                have H := HC27.out
                                clear HC27
                                by_cases c28 : 0 < (a0.size : Int)
                                · rw [if_pos c28] at H
                                  have c28b0 : decide (0 < (a0.size : Int)) = true := decide_eq_true c28
                                  have c28b1 : decide (0 < a0.size) = true := decide_eq_true (by omega)
                                  clear c28
                                  (first | rw [c28b0] | (simp only [i64_w, i32_w]; rw [c28b0]) | skip)
                                  by_cases c30 : (bt a0 0) = 45
                                  · rw [if_pos c30] at H
                                    have c30b0 : ((bt a0 0) == 45) = true := beq_iff_eq.mpr c30
                                    have c30b1 : ((bt a0 0) != 45) = false := bne_eq_false_iff_eq.mpr c30
                                    clear c30
                                    have H' := Aside0.mk H
                                    clear H
                                    have p29 : 0 ≤ (0 : Int) := (by omega)
                                    have q29 : 0 < a0.size := (by have : (0 : Int) < (a0.size : Int) := of_decide_eq_true (by first | (with_reducible assumption) | assumption); omega)
                                    have hx29 : ∀ h : 0 < a0.size, ((a0[0]'h).toNat : Int) = bt a0 0 := bt_at a0 0
                                    clear p29
                                    have qi29 : (0 < (a0.size : Int)) = True := eq_true (of_decide_eq_true (by first | (with_reducible assumption) | assumption))
                                    replace q29 := eq_true q29
                                    go_wp2
                                    go_meet
                                    case rel => exact ⟨_, (decide (x6_5 ≤ 9223372036854775808)), (by first | rfl | (simp; done) | (simp [*]; done)), H', ⟨by have := HJ1.out; have := HJ5.out; have := HJ8.out; have := HK4.out; have := HK5.out; first | omega | exact Nat.le_refl _⟩, by repeat (first | exact Drawn0.refl _ | apply Drawn0.step)⟩
                                  · rw [if_neg c30] at H
                                    have c30b0 : ((bt a0 0) == 45) = false := beq_eq_false_iff_ne.mpr c30
                                    have c30b1 : ((bt a0 0) != 45) = true := bne_iff_ne.mpr c30
                                    have H' := Aside0.mk H
                                    clear H
                                    have p29 : 0 ≤ (0 : Int) := (by omega)
                                    have q29 : 0 < a0.size := (by have : (0 : Int) < (a0.size : Int) := of_decide_eq_true (by first | (with_reducible assumption) | assumption); omega)
                                    have hx29 : ∀ h : 0 < a0.size, ((a0[0]'h).toNat : Int) = bt a0 0 := bt_at a0 0
                                    clear p29
                                    have qi29 : (0 < (a0.size : Int)) = True := eq_true (of_decide_eq_true (by first | (with_reducible assumption) | assumption))
                                    replace q29 := eq_true q29
                                    go_wp2
                                    go_meet
                                    case rel => exact ⟨_, (false), (by first | rfl | (simp; done) | (simp [*]; done)), H', ⟨by have := HJ1.out; have := HJ5.out; have := HJ8.out; have := HK4.out; have := HK5.out; first | omega | exact Nat.le_refl _⟩, by repeat (first | exact Drawn0.refl _ | apply Drawn0.step)⟩
                                · rw [if_neg c28] at H
                                  exact absurd H (by simp)
                              case rest =>
                                clear HC27
                                try clear c1
                                try clear p1
                                try clear q1
                                try clear hx1
                                try clear qi1
                                try clear c2
                                try clear p2
                                try clear q2
                                try clear hx2
                                try clear qi2
                                try clear c3
                                try clear c3b0
                                try clear c3b1
                                try clear c4
                                try clear c4b0
                                try clear c4b1
                                try clear c5
                                try clear p5
                                try clear q5
                                try clear hx5
                                try clear qi5
                                try clear p6
                                try clear c7
                                try clear c8
                                try clear c8b0
                                try clear c8b1
                                try clear c10
                                try clear c10b0
                                try clear c10b1
                                try clear c11
                                try clear c11b0
                                try clear c11b1
                                try clear p12
                                try clear q12
                                try clear hx12
                                try clear qi12
                                try clear c13
                                try clear c13b0
                                try clear c13b1
                                try clear c14
                                try clear c15
                                try clear c15b0
                                try clear c16
                                try clear c16b0
                                try clear c17
                                try clear c17b0
                                try clear p18
                                try clear q18
                                try clear hx18
                                try clear c19
                                try clear c19b0
                                try clear p20
                                try clear q20
                                try clear hx20
                                try clear c21
                                try clear c21b0
                                try clear c22
                                try clear c22b0
                                try clear c22b1
                                try clear c23
                                try clear c23b0
                                try clear c24
                                try clear c24b0
                                try clear c25
                                try clear c25b0
                                try clear p26
                                try clear q26
                                try clear hx26
                                try clear c28
                                try clear c28b0
                                try clear c28b1
                                try clear p29
                                try clear q29
                                try clear hx29
                                try clear qi29
                                try clear c30
                                try clear c30b0
                                try clear c30b1
                                try clear p1
                                try clear p12
                                try clear p18
                                try clear p2
                                try clear p20
                                try clear p26
                                try clear p29
                                try clear p5
                                try clear p6
                                try clear q1
                                try clear q12
                                try clear q18
                                try clear q2
                                try clear q20
                                try clear q26
                                try clear q29
                                try clear q5
                                obtain ⟨kq, x63_26, rfl, HA, HJ26, ⟨mc26, rfl⟩⟩ := hcut
                                cases kq with
                                | zero => exact absurd HA.out (by simp [elenchusref1_Parse.j5])
                                | succ kj26 =>
                                  have H := HA.out
                                  clear HA
                                  simp only [elenchusref1_Parse.j5] at H
                                  by_cases c31 : x63_26 = true
                                  · subst c31
                                    have H1 : (some (wrap64 (IntKind.u64.wrap (-x6_5)), 0)) = some (r1, r2) := by rw [if_pos rfl] at H; exact H
                                    clear H
                                    have H := H1
                                    clear H1
                                    simp only [Option.some.injEq, Prod.mk.injEq] at H
                                    obtain ⟨rfl, rfl⟩ := H
                                    go_wp2
                                    go_ret2
                                    exact ⟨by first | rfl | (simp; done) | (simp [*]; done), by repeat (first | exact Drawn0.refl _ | apply Drawn0.step)⟩
                                  · replace c31 := Bool.eq_false_iff.mpr c31
                                    subst c31
                                    have H1 : (if 0 < (a0.size : Int) then (if (bt a0 0) = 45 then (some (0, 6)) else (if x6_5 < 9223372036854775808 then (some (wrap64 (x6_5), 0)) else (some (0, 6)))) else (none)) = some (r1, r2) := by rw [if_neg (show ¬ (false = true) by decide)] at H; exact H
                                    clear H
                                    have H := H1
                                    clear H1
                                    by_cases c32 : 0 < (a0.size : Int)
                                    · rw [if_pos c32] at H
                                      have c32b0 : decide (0 < (a0.size : Int)) = true := decide_eq_true c32
                                      have c32b1 : decide (0 < a0.size) = true := decide_eq_true (by omega)
                                      clear c32
                                      by_cases c34 : (bt a0 0) = 45
                                      · rw [if_pos c34] at H
                                        have c34b0 : ((bt a0 0) == 45) = true := beq_iff_eq.mpr c34
                                        have c34b1 : ((bt a0 0) != 45) = false := bne_eq_false_iff_eq.mpr c34
                                        clear c34
                                        simp only [Option.some.injEq, Prod.mk.injEq] at H
                                        obtain ⟨rfl, rfl⟩ := H
                                        have p33 : 0 ≤ (0 : Int) := (by omega)
                                        have q33 : 0 < a0.size := (by have : (0 : Int) < (a0.size : Int) := of_decide_eq_true (by first | (with_reducible assumption) | assumption); omega)
                                        have hx33 : ∀ h : 0 < a0.size, ((a0[0]'h).toNat : Int) = bt a0 0 := bt_at a0 0
                                        clear p33
                                        have qi33 : (0 < (a0.size : Int)) = True := eq_true (of_decide_eq_true (by first | (with_reducible assumption) | assumption))
                                        replace q33 := eq_true q33
                                        go_wp2
                                        go_ret2
                                        exact ⟨by first | rfl | (simp; done) | (simp [*]; done), by repeat (first | exact Drawn0.refl _ | apply Drawn0.step)⟩
                                      · rw [if_neg c34] at H
                                        have c34b0 : ((bt a0 0) == 45) = false := beq_eq_false_iff_ne.mpr c34
                                        have c34b1 : ((bt a0 0) != 45) = true := bne_iff_ne.mpr c34
                                        by_cases c35 : x6_5 < 9223372036854775808
                                        · rw [if_pos c35] at H
                                          have c35b0 : decide (x6_5 < 9223372036854775808) = true := decide_eq_true c35
                                          clear c35
                                          simp only [Option.some.injEq, Prod.mk.injEq] at H
                                          obtain ⟨rfl, rfl⟩ := H
                                          have p33 : 0 ≤ (0 : Int) := (by omega)
                                          have q33 : 0 < a0.size := (by have : (0 : Int) < (a0.size : Int) := of_decide_eq_true (by first | (with_reducible assumption) | assumption); omega)
                                          have hx33 : ∀ h : 0 < a0.size, ((a0[0]'h).toNat : Int) = bt a0 0 := bt_at a0 0
                                          clear p33
                                          have qi33 : (0 < (a0.size : Int)) = True := eq_true (of_decide_eq_true (by first | (with_reducible assumption) | assumption))
                                          replace q33 := eq_true q33
                                          go_wp2
                                          go_ret2
                                          exact ⟨by first | rfl | (simp; done) | (simp [*]; done), by repeat (first | exact Drawn0.refl _ | apply Drawn0.step)⟩
                                        · rw [if_neg c35] at H
                                          have c35b0 : decide (x6_5 < 9223372036854775808) = false := decide_eq_false c35
                                          clear c35
                                          simp only [Option.some.injEq, Prod.mk.injEq] at H
                                          obtain ⟨rfl, rfl⟩ := H
                                          have p33 : 0 ≤ (0 : Int) := (by omega)
                                          have q33 : 0 < a0.size := (by have : (0 : Int) < (a0.size : Int) := of_decide_eq_true (by first | (with_reducible assumption) | assumption); omega)
                                          have hx33 : ∀ h : 0 < a0.size, ((a0[0]'h).toNat : Int) = bt a0 0 := bt_at a0 0
                                          clear p33
                                          have qi33 : (0 < (a0.size : Int)) = True := eq_true (of_decide_eq_true (by first | (with_reducible assumption) | assumption))
                                          replace q33 := eq_true q33
                                          go_wp2
                                          go_ret2
                                          exact ⟨by first | rfl | (simp; done) | (simp [*]; done), by repeat (first | exact Drawn0.refl _ | apply Drawn0.step)⟩
                                    · rw [if_neg c32] at H
                                      exact absurd H (by simp)

end Go.Proofs.YtbkojghbgoejcaaDoor.Pr
