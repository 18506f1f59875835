/- Proved: for every two texts the call of TokenWords returns true, and nothing that was there is changed. Conditions: the library's variables hold what their texts lay in them; the world's shape. -/
import Derived.Test.YtenpnejkgopghaaDoorTop
import Derived.Test.YtenpnejkgopghaaDoorLow
import Derived.WalkKit
set_option linter.unusedVariables false
set_option maxRecDepth 100000
set_option linter.unusedSectionVars false
set_option linter.unusedSimpArgs false
namespace Go.Proofs.YtenpnejkgopghaaDoor.Tok
open Go Go.RowKit Go.Proofs.YtenpnejkgopghaaDoor.AK
theorem cell_keep {w w' : World} {g k : Nat} (b : Below w.heap.size w w') (h : g < w.heap.size) : w'.cell? ⟨g, k, none⟩ = w.cell? ⟨g, k, none⟩ := by
  unfold World.cell?
  rw [b.block g h]
theorem chain {w w1 w2 : World} (a : Below w.heap.size w w1) (b : Below w1.heap.size w1 w2) : Below w.heap.size w w2 := a.trans (b.mono a.size)
set_option maxHeartbeats 3200000 in
theorem words_walk (a b : ByteArray) (w : World) (R : Ready w) (hsa : a.size ≤ 140737488351232) (hsb : b.size ≤ 140737488351232) :
    Calls Tryd.prog 6 #[.string a, .string b] w fun e w' => e = .returned (.bool true) ∧ Below w.heap.size w w' := by
  have B0 := Lib.hid (Below.refl w.heap.size w)
  by_cases ha : a.size ≤ 60
  · by_cases hb : b.size ≤ 60
    · obtain ⟨x, hx⟩ : ∃ x : Bool, x = true ↔ LowerP a := ⟨@decide (LowerP a) (Classical.propDecidable _), by rw [@decide_eq_true_eq _ (Classical.propDecidable _)]⟩
      obtain ⟨y, hy⟩ : ∃ y : Bool, y = true ↔ LowerP b := ⟨@decide (LowerP b) (Classical.propDecidable _), by rw [@decide_eq_true_eq _ (Classical.propDecidable _)]⟩
      have ca := lower_calls a (by omega) x hx
      have cb := lower_calls b (by omega) y hy
      have HX := Lib.hid hx
      have HY := Lib.hid hy
      clear hx hy
      cases x with
      | false =>
        go_enter Tryd.func6, Tryd.ntmps6
        go_wp2_with fail
        (with_reducible refine (ca _).mono ?_); rintro e w1 ⟨rfl, b1⟩
        have B1 := Lib.hid (chain B0.out b1)
        clear b1
        go_wp2_with fail
        (with_reducible refine (awake_calls _).mono ?_); rintro e w2 ⟨rfl, b2⟩
        have B2 := Lib.hid (chain B1.out b2)
        clear b2
        go_wp2_with fail
        go_ret
        exact ⟨rfl, B2.out⟩
      | true =>
        cases y with
        | false =>
          go_enter Tryd.func6, Tryd.ntmps6
          go_wp2_with fail
          (with_reducible refine (ca _).mono ?_); rintro e w1 ⟨rfl, b1⟩
          have B1 := Lib.hid (chain B0.out b1)
          clear b1
          go_wp2_with fail
          (with_reducible refine (cb _).mono ?_); rintro e w2 ⟨rfl, b2⟩
          have B2 := Lib.hid (chain B1.out b2)
          clear b2
          go_wp2_with fail
          (with_reducible refine (awake_calls _).mono ?_); rintro e w3 ⟨rfl, b3⟩
          have B3 := Lib.hid (chain B2.out b3)
          clear b3
          go_wp2_with fail
          go_ret
          exact ⟨rfl, B3.out⟩
        | true =>
          have la := HX.out.1 rfl
          have lb := HY.out.1 rfl
          have l1 := Lib.hid (lex_two la lb (by omega) (by omega))
          have l2 := Lib.hid (lex_one (lower_app la lb) (by rw [ByteArray.size_append]; omega))
          have l3 := Lib.hid (lex_call la lb (by omega) (by omega))
          have z1 : (⟨#[32]⟩ : ByteArray).size = 1 := rfl
          have z2 : (⟨#[40]⟩ : ByteArray).size = 1 := rfl
          have z3 : (⟨#[41]⟩ : ByteArray).size = 1 := rfl
          have y1 := ByteArray.size_append (a := a) (b := ⟨#[32]⟩)
          have y2 := ByteArray.size_append (a := a ++ ⟨#[32]⟩) (b := b)
          have y3 := ByteArray.size_append (a := a) (b := b)
          have y4 := ByteArray.size_append (a := a) (b := ⟨#[40]⟩)
          have y5 := ByteArray.size_append (a := a ++ ⟨#[40]⟩) (b := b)
          have y6 := ByteArray.size_append (a := a ++ ⟨#[40]⟩ ++ b) (b := ⟨#[41]⟩)
          clear la lb
          go_enter Tryd.func6, Tryd.ntmps6
          go_wp2_with fail
          (with_reducible refine (ca _).mono ?_); rintro e w1 ⟨rfl, b1⟩
          have B1 := Lib.hid (chain B0.out b1)
          clear b1
          go_wp2_with fail
          (with_reducible refine (cb _).mono ?_); rintro e w2 ⟨rfl, b2⟩
          have B2 := Lib.hid (chain B1.out b2)
          clear b2
          go_wp2_with fail
          (with_reducible refine (all_any R B2.out (by omega) l1.out).mono ?_); rintro e w3 ⟨v1, rfl, r1, b3⟩
          have r1 : Row w3 _ _ 6 v1 2 _ := r1
          obtain ⟨g1, c1, rfl, hc1, hb1, hg1, q1⟩ := row_cells r1 (by decide)
          have B3 := Lib.hid (chain B2.out b3)
          have p10 := q1 1 _ rfl
          have p11 := q1 7 _ rfl
          have G1 := Lib.hid hg1
          clear b3 r1 q1 hb1 hg1
          go_wp2_with fail
          (with_reducible refine (all_any R B3.out (by omega) l2.out).mono ?_); rintro e w4 ⟨v2, rfl, r2, b4⟩
          have r2 : Row w4 _ _ 6 v2 1 _ := r2
          obtain ⟨g2, c2, rfl, hc2, hb2, hg2, q2⟩ := row_cells r2 (by decide)
          have B4 := Lib.hid (chain B3.out b4)
          have p20 := q2 1 _ rfl
          rw [← cell_keep b4 G1.out] at p10 p11
          have G2 := Lib.hid hg2
          have G1 := Lib.hid (Nat.lt_of_lt_of_le G1.out b4.size)
          clear b4 r2 q2 hb2 hg2
          go_wp2_with fail
          (with_reducible refine (all_any R B4.out (by omega) l3.out).mono ?_); rintro e w5 ⟨v3, rfl, r3, b5⟩
          have r3 : Row w5 _ _ 6 v3 4 _ := r3
          obtain ⟨g3, c3, rfl, hc3, hb3, hg3, q3⟩ := row_cells r3 (by decide)
          have B5 := Lib.hid (chain B4.out b5)
          have p30 := q3 6 _ rfl
          rw [← cell_keep b5 G1.out] at p10 p11
          rw [← cell_keep b5 G2.out] at p20
          clear b5 r3 q3 hb3 hg3
          go_wp2_with fail
          (with_reducible refine (awake_calls _).mono ?_); rintro e w6 ⟨rfl, b6⟩
          have B6 := Lib.hid (chain B5.out b6)
          clear b6
          go_wp2_with fail
          go_ret
          exact ⟨rfl, B6.out⟩
    · have hb' : ¬ ((b.size : Int) ≤ 60) := by omega
      go_enter Tryd.func6, Tryd.ntmps6
      go_wp2_with fail
      (with_reducible refine (awake_calls _).mono ?_); rintro e w3 ⟨rfl, b3⟩
      have B3 := Lib.hid (chain B0.out b3)
      clear b3
      go_wp2_with fail
      go_ret
      exact ⟨rfl, B3.out⟩
  · have ha' : ¬ ((a.size : Int) ≤ 60) := by omega
    go_enter Tryd.func6, Tryd.ntmps6
    go_wp2_with fail
    (with_reducible refine (awake_calls _).mono ?_); rintro e w3 ⟨rfl, b3⟩
    have B3 := Lib.hid (chain B0.out b3)
    clear b3
    go_wp2_with fail
    go_ret
    exact ⟨rfl, B3.out⟩
theorem words_card (a b : ByteArray) (W : World) (hsa : a.size ≤ 140737488351232) (hsb : b.size ≤ 140737488351232) (L : LaidW.Laid W) (hsh : W.ShapedOpen Tryd.prog) :
    Calls Tryd.prog 6 #[.string a, .string b] W fun e w' => e = .returned (.bool true) ∧ Below W.heap.size W w' := words_walk a b W (ready_of L hsh) hsa hsb
end Go.Proofs.YtenpnejkgopghaaDoor.Tok
