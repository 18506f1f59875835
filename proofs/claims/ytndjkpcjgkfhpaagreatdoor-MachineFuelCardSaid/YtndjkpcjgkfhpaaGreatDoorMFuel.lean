/- Proved: MachineFuel returns true and leaves what there was as it was, whatever the numbers. Conditions: none. -/
import Derived.Test.YtndjkpcjgkfhpaaGreatDoorAiRun
import Derived.Test.YtndjkpcjgkfhpaaGreatDoorLaidW
import Derived.WalkKit
import Derived.ProofKit
import Derived.Below
namespace Go.Proofs.YtndjkpcjgkfhpaaGreatDoor.Fuel
open Go Go.RowKit
theorem left_nil (w : World) : Calls Tryz.prog 7 #[.pointer none] w fun e w' => e = .returned (.int .i64 0) ∧ w' = w := by
  go_enter Tryz.func7, Tryz.ntmps7
  go_wp2
  go_ret
  exact ⟨rfl, rfl⟩
theorem left_ok (g : Nat) (v : Int) (w : World) (h : w.cell? ⟨g, 0, none⟩ = some (.int .i64 v)) : Calls Tryz.prog 7 #[.pointer (some ⟨g, 0, none⟩)] w fun e w' => e = .returned (.int .i64 v) ∧ w' = w := by
  go_enter Tryz.func7, Tryz.ntmps7
  go_wp2
  go_ret
  exact ⟨rfl, rfl⟩
theorem take_nil (w : World) : Calls Tryz.prog 6 #[.pointer none] w fun e w' => e = .returned (.bool false) ∧ w' = w := by
  go_enter Tryz.func6, Tryz.ntmps6
  go_wp2_with fail
  (with_reducible refine (left_nil _).mono ?_); rintro e w1 ⟨rfl, rfl⟩
  go_wp2_with fail
  go_ret
  exact ⟨rfl, rfl⟩
theorem take_none (g : Nat) (w : World) (h : w.cell? ⟨g, 0, none⟩ = some (.int .i64 0)) : Calls Tryz.prog 6 #[.pointer (some ⟨g, 0, none⟩)] w fun e w' => e = .returned (.bool false) ∧ w' = w := by
  go_enter Tryz.func6, Tryz.ntmps6
  go_wp2_with fail
  (with_reducible refine (left_ok g 0 _ h).mono ?_); rintro e w1 ⟨rfl, rfl⟩
  go_wp2_with fail
  go_ret
  exact ⟨rfl, rfl⟩
theorem take_some (g : Nat) (v : Nat) (hv : v ≤ 1000000) (w : World) (h : w.cell? ⟨g, 0, none⟩ = some (.int .i64 ((v + 1 : Nat) : Int))) (hf : w.frozen? ⟨g, 0, none⟩ = false) : Calls Tryz.prog 6 #[.pointer (some ⟨g, 0, none⟩)] w fun e w' => e = .returned (.bool true) ∧ w' = w.setCell ⟨g, 0, none⟩ (.int .i64 (v : Int)) := by
  have e1 : ((((v + 1 : Nat) : Int)) == 0) = false := by simp; omega
  have e2 : wrap64 ((((v + 1 : Nat) : Int)) - 1) = (v : Int) := by unfold wrap64; omega
  generalize ((v + 1 : Nat) : Int) = u at *
  go_enter Tryz.func6, Tryz.ntmps6
  go_wp2_with fail
  (with_reducible refine (left_ok g u _ h).mono ?_); rintro e w1 ⟨rfl, rfl⟩
  go_wp2_with fail
  go_ret
  exact ⟨rfl, rfl⟩
theorem alloc_eq (w : World) (x y : Int) (h : x = y) : w.alloc (.cells #[.int .i64 x] 43) = w.alloc (.cells #[.int .i64 y] 43) := by rw [h]
theorem at_new (W : World) (x : Int) (X : Nat) (h : x = (X : Int)) : (W.alloc (.cells #[.int .i64 x] 43)).heap[W.heap.size]? = some (.cells #[.int .i64 (X : Int)] 43 (0, 0)) := by
  subst h
  show (W.heap.push _)[W.heap.size]? = _
  simp
theorem new_ok (n : Int) (w : World) : Calls Tryz.prog 5 #[.int .i64 n] w fun e w' => e = .returned (.pointer (some ⟨w.heap.size, 0, none⟩)) ∧ w' = w.alloc (.cells #[.int .i64 (max 0 (min n 1000000))] 43) := by
  go_enter Tryz.func5, Tryz.ntmps5
  go_wp2
  all_goals go_ret
  all_goals exact ⟨rfl, alloc_eq w _ _ (by omega)⟩

theorem fuel_walk (n k : Int) (W : World) (wn : -9223372036854775808 ≤ n ∧ n ≤ 9223372036854775807) (_wk : -9223372036854775808 ≤ k ∧ k ≤ 9223372036854775807)
    (aw : ∀ w : World, Calls Tryz.prog 8 #[] w fun e w' => e = .returned (.bool true) ∧ Below w.heap.size w w') :
    Calls Tryz.prog 3 #[.int .i64 n, .int .i64 k] W fun e w' => e = .returned (.bool true) ∧ Below W.heap.size W w' := by
  go_enter Tryz.func3, Tryz.ntmps3
  go_wp2_with fail
  (with_reducible refine (new_ok n _).mono ?_); rintro e w1 ⟨rfl, rfl⟩
  obtain ⟨K, hK, hK50⟩ : ∃ K : Nat, wrap64 ((IntKind.u64.wrap k).tmod 50) = (K : Int) ∧ K < 50 := by
    have h0 : 0 ≤ IntKind.u64.wrap k := by unfold IntKind.wrap; simp [IntKind.signed, IntKind.bits]; omega
    refine ⟨((IntKind.u64.wrap k).tmod 50).toNat, ?_, ?_⟩
    · have := Int.tmod_lt_of_pos (IntKind.u64.wrap k) (show (0 : Int) < 50 by decide)
      have := Int.tmod_nonneg 50 h0
      unfold wrap64; omega
    · have := Int.tmod_lt_of_pos (IntKind.u64.wrap k) (show (0 : Int) < 50 by decide)
      have := Int.tmod_nonneg 50 h0
      omega
  go_wp2_with fail
  all_goals (
    go_loopw [6, 18] (fun h j wr => ∃ H J : Nat, h = .int .i64 (H : Int) ∧ j = .int .i64 (J : Int) ∧ H ≤ 1000000 ∧ J ≤ K ∧ Hid (wr.heap[W.heap.size]? = some (.cells #[.int .i64 (H : Int)] 43 (0, 0))) ∧ Hid (Below W.heap.size W wr)) (fun _ j _ => K - (intOf j).toNat)
    case atStart =>
      first
        | exact ⟨0, 0, rfl, rfl, by omega, by omega, at_new W _ 0 (by omega), (Below.refl _ _).alloc (Nat.le_refl _) _⟩
        | exact ⟨1000000, 0, rfl, rfl, by omega, by omega, at_new W _ 1000000 (by omega), (Below.refl _ _).alloc (Nat.le_refl _) _⟩
        | exact ⟨n.toNat, 0, by congr 1; omega, rfl, by omega, by omega, at_new W _ n.toNat (by omega), (Below.refl _ _).alloc (Nat.le_refl _) _⟩
    case round =>
      obtain ⟨H, J, rfl, rfl, hH, hJ, HC, HB⟩ := hrel
      have hcell : wr.cell? ⟨W.heap.size, 0, none⟩ = some (.int .i64 (H : Int)) := by simp [World.cell?, HC.out]
      have hfroz : wr.frozen? ⟨W.heap.size, 0, none⟩ = false := by simp [World.frozen?, HC.out]
      by_cases hlt : J < K
      · have g1 : decide ((J : Int) < (K : Int)) = true := by simp; omega
        cases H with
        | zero =>
          go_wp2_with fail
          (with_reducible refine (take_none _ _ hcell).mono ?_); rintro e w1 ⟨rfl, rfl⟩
          go_wp2_with fail
          all_goals (
            go_roundw
            case rel => exact ⟨0, J + 1, by go_num, by go_num, by omega, by omega, HC, HB⟩
            case measure => simp [intOf]; omega)
        | succ H =>
          have g2 : decide (0 < ((H + 1 : Nat) : Int)) = true := decide_eq_true (by omega)
          have g3 : wrap64 (((H + 1 : Nat) : Int) - 1) = (H : Int) := by unfold wrap64; omega
          go_wp2_with fail
          (with_reducible refine (take_some _ H (by omega) _ hcell hfroz).mono ?_); rintro e w1 ⟨rfl, rfl⟩
          go_wp2_with fail
          have HC2 : (wr.setCell ⟨W.heap.size, 0, none⟩ (.int .i64 (H : Int))).heap[W.heap.size]? = some (.cells #[.int .i64 (H : Int)] 43 (0, 0)) := by
            have hlt : W.heap.size < wr.heap.size := (Array.getElem?_eq_some_iff.1 HC.out).1
            have he := (Array.getElem?_eq_some_iff.1 HC.out).2
            simp [World.setCell, Array.getElem?_modify, HC.out]
          all_goals (
            go_roundw
            case rel => exact ⟨H, J + 1, by congr 1; omega, by go_num, by omega, by omega, HC2, HB.out.setCell (Nat.le_refl _) _⟩
            case measure => simp [intOf]; omega)
      · have g1 : decide ((J : Int) < (K : Int)) = false := by simp; omega
        have g2 : ((H : Int) == (H : Int)) = true := by simp
        go_wp2_with fail
        (with_reducible refine (left_ok _ _ _ hcell).mono ?_); rintro e w1 ⟨rfl, rfl⟩
        go_wp2_with fail
        (with_reducible refine (take_nil _).mono ?_); rintro e w1 ⟨rfl, rfl⟩
        go_wp2_with fail
        (with_reducible refine (left_nil _).mono ?_); rintro e w1 ⟨rfl, rfl⟩
        go_wp2_with fail
        (with_reducible refine (aw _).mono ?_); rintro e w1 ⟨rfl, b1⟩
        go_wp2_with fail
        go_ret
        exact ⟨rfl, HB.out.trans (b1.mono HB.out.size)⟩)
theorem awake_run : AI.isTrue (AI.callN ⟨Tryz.prog, AI.rawG⟩ (fun _ => none) 1000 100 (.fn 8 [] []) [] AI.H.empty) = true := by kernel_rfl
theorem awake_walk (w : World) : Calls Tryz.prog 8 #[] w fun e w' => e = .returned (.bool true) ∧ Below w.heap.size w w' := AI.plain_true .nil 1000 100 awake_run
theorem walk (n k : Int) (W : World) (w0 : (Lit.int .i64 n).wf = true) (w1 : (Lit.int .i64 k).wf = true) (_L : LaidW.Laid W) :
    Calls Tryz.prog 3 #[.int .i64 n, .int .i64 k] W fun e w' => e = .returned (.bool true) ∧ Below W.heap.size W w' :=
  fuel_walk n k W (by simp only [Lit.wf, Bool.and_eq_true, decide_eq_true_eq] at w0; exact w0) (by simp only [Lit.wf, Bool.and_eq_true, decide_eq_true_eq] at w1; exact w1) awake_walk
end Go.Proofs.YtndjkpcjgkfhpaaGreatDoor.Fuel
