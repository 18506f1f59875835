/- Proved: for every two texts and every number the call of TokenSpaces returns true, and nothing that was there is changed. Conditions: the library's variables hold what their texts lay in them; the world's shape. -/
import Derived.Test.YtenpnejkgopghaaDoorTop
import Derived.Test.YtenpnejkgopghaaDoorTopB
import Derived.Test.YtenpnejkgopghaaDoorLow
import Derived.Test.YtenpnejkgopghaaDoorSpR
import Derived.Test.YtenpnejkgopghaaDoorPlaceP
import Derived.WalkKit
import Derived.Deep.QuietTactic
import Derived.BigQuiet
set_option linter.unusedVariables false
set_option linter.unusedSectionVars false
set_option linter.unusedSimpArgs false
set_option maxRecDepth 100000
namespace Go.Proofs.YtenpnejkgopghaaDoor.Tok
open Go Go.RowKit Go.Proofs.YtenpnejkgopghaaDoor.AK
theorem gap_ix (n : Int) (h0 : -9223372036854775808 ≤ n) (h1 : n ≤ 9223372036854775807) : wrap64 ((IntKind.u64.wrap n).tmod 4) = n % 4 := by
  rw [IntKind.wrap_u64, Int.tmod_eq_emod_of_nonneg (by omega), IntWalk.wrap64_in _ (by omega)]
  omega
theorem gap_run (d : Int) (h : d = 0 ∨ d = 1 ∨ d = 2 ∨ d = 3) : ∃ g, IsGap g ∧ ∀ w : World, (Instr.index 31 (.agg #[.string ⟨#[32]⟩, .string ⟨#[10, 9, 32]⟩, .string ⟨#[32, 37, 32, 97, 32, 114, 101, 109, 97, 114, 107, 10]⟩, .string ⟨#[32, 47, 42, 32, 97, 110, 111, 116, 104, 101, 114, 32, 42, 32, 47, 32, 111, 110, 101, 32, 42, 47, 32]⟩]) (.int .i64 d)).run Tryd.prog w = .ok (.string g) w := by
  rcases h with rfl | rfl | rfl | rfl
  · exact ⟨gap0, .inl rfl, fun w => by kernel_rfl⟩
  · exact ⟨gap1, .inr (.inl rfl), fun w => by kernel_rfl⟩
  · exact ⟨gap2, .inr (.inr (.inl rfl)), fun w => by kernel_rfl⟩
  · exact ⟨gap3, .inr (.inr (.inr rfl)), fun w => by kernel_rfl⟩
theorem spaces_at {l m : List T} {d k : Nat} (h1 : l.length ≤ k) (h2 : k < l.length + m.length) : tokAt (l ++ m.map (sh d)) k = sh d (tokAt m (k - l.length)) := by
  unfold tokAt
  rw [List.getD_eq_getElem?_getD, List.getD_eq_getElem?_getD, List.getElem?_append_right h1, List.getElem?_map, List.getElem?_eq_getElem (by omega)]
  rfl
theorem spaces_at0 {l m : List T} {k : Nat} (h1 : k < l.length) : tokAt (l ++ m) k = tokAt l k := by
  unfold tokAt
  rw [List.getD_eq_getElem?_getD, List.getD_eq_getElem?_getD, List.getElem?_append_left h1]
theorem tok_some {l : List T} {k : Nat} (h : k < l.length) : l[k]? = some (tokAt l k) := by
  unfold tokAt
  rw [List.getD_eq_getElem?_getD, List.getElem?_eq_getElem h]; rfl
/-- A row of tokens, none or some. -/
theorem row_view {w : World} {B : Nat} {e : TypeId} {sz n : Nat} {v : Value} {xs : List Value} (h : Row w B e sz v n xs) : ∃ p c, v = .slice p n c ∧ n ≤ c ∧ (n ≠ 0 → ∃ g, p = some ⟨g, 0, none⟩ ∧ g < w.heap.size ∧ ∀ k x, xs[k]? = some x → w.cell? ⟨g, k, none⟩ = some x) := by
  by_cases hn : n = 0
  · subst hn
    obtain ⟨p, c, rfl⟩ := row_nil h
    exact ⟨p, c, rfl, Nat.zero_le _, fun h => absurd rfl h⟩
  · obtain ⟨g, c, rfl, hc, _, hg, q⟩ := row_cells h hn
    exact ⟨_, c, rfl, hc, fun _ => ⟨g, rfl, hg, q⟩⟩
theorem gap_of (d : Int) (h0 : 0 ≤ d) (h4 : d < 4) : d = 0 ∨ d = 1 ∨ d = 2 ∨ d = 3 := by omega
set_option maxHeartbeats 3200000 in
theorem spaces_walk (a b : ByteArray) (gap : Int) (w : World) (R : Ready w) (ha : a.size ≤ 140737488351232) (hb : b.size ≤ 140737488351232) (hg0 : -9223372036854775808 ≤ gap) (hg1 : gap ≤ 9223372036854775807) :
    Calls Tryd.prog 4 #[.string a, .string b, .int .i64 gap] w fun e w' => e = .returned (.bool true) ∧ Below w.heap.size w w' := by
  have B0 := Lib.hid (Below.refl w.heap.size w)
  by_cases ha1 : a.size ≤ 1000
  · by_cases hb1 : b.size ≤ 1000
    · by_cases hr : ∃ k, k < a.size ∧ (at8 a k).toNat = 37
      · have RM := Lib.hid (fun w' => remark_calls a (by omega) true ⟨fun _ => hr, fun _ => rfl⟩ w')
        clear hr
        go_enter Tryd.func4, Tryd.ntmps4
        go_wp2_with fail
        (with_reducible refine (RM.out _).mono ?_); rintro e w1 ⟨rfl, b1⟩
        have B1 := Lib.hid (chain B0.out b1)
        clear b1
        go_wp2_with fail
        (with_reducible refine (awake_calls _).mono ?_); rintro e w3 ⟨rfl, b3⟩
        have B3 := Lib.hid (chain B1.out b3)
        clear b3
        go_wp2_with fail
        go_ret
        exact ⟨rfl, B3.out⟩
      · have RM := Lib.hid (fun w' => remark_calls a (by omega) false ⟨fun h => Bool.noConfusion h, fun h => absurd h hr⟩ w')
        have hra : ∀ k, k < a.size → (at8 a k).toNat ≠ 37 := fun k h1 h2 => hr ⟨k, h1, h2⟩
        have HRA := Lib.hid hra
        clear hr hra
        obtain ⟨L1, hL1⟩ : ∃ L, lexTo (a ++ ⟨#[32]⟩) 0 [] = L := ⟨_, rfl⟩
        obtain ⟨L2, hL2⟩ : ∃ L, lexTo b 0 [] = L := ⟨_, rfl⟩
        have hz1 : (a ++ ⟨#[32]⟩).size ≤ 65536 := by rw [ByteArray.size_append]; show a.size + 1 ≤ _; omega
        have hn1 : L1.ts.length ≤ 1001 := by
          have := lex_len (s := a ++ ⟨#[32]⟩) _ 0 [] (Nat.le_refl _) (Nat.zero_le _) (Nat.zero_le _)
          rw [hL1, ByteArray.size_append] at this
          have z : (⟨#[32]⟩ : ByteArray).size = 1 := rfl
          omega
        have hn2 : L2.ts.length ≤ 1000 := by
          have := lex_len (s := b) _ 0 [] (Nat.le_refl _) (Nat.zero_le _) (Nat.zero_le _)
          rw [hL2] at this
          omega
        have l1 := Lib.hid hL1
        have l2 := Lib.hid hL2
        clear hL1 hL2
        by_cases he1 : L1.e = 0
        · by_cases he2 : L2.e = 0
          · obtain ⟨ts1, at1, e1⟩ := L1
            obtain ⟨ts2, at2, e2⟩ := L2
            have he1 : e1 = 0 := he1
            have he2 : e2 = 0 := he2
            subst he1 he2
            obtain ⟨n1, hl1⟩ : ∃ n, ts1.length = n := ⟨_, rfl⟩
            obtain ⟨n2, hl2⟩ : ∃ n, ts2.length = n := ⟨_, rfl⟩
            have hn1 : n1 ≤ 1001 := by rw [← hl1]; exact hn1
            have hn2 : n2 ≤ 1000 := by rw [← hl2]; exact hn2
            have GI := Lib.hid (gap_ix gap hg0 hg1)
            have GG := Lib.hid (gap_of (gap % 4) (by omega) (by omega))
            have P2 := Lib.hid (places_ok l2.out)
            have HTS := Lib.hid (fun g hg => by
              have := spaces_lex (g := g) hg HRA.out (by rw [l1.out]) (by rw [l2.out])
              rw [l1.out, l2.out] at this
              exact this : ∀ g, IsGap g → lexTo (a ++ g ++ b) 0 [] = ⟨ts1 ++ ts2.map (sh (a.size + g.size)), 0, 0⟩)
            have HL1 := Lib.hid hl1
            have HL2 := Lib.hid hl2
            clear hl1 hl2
            go_enter Tryd.func4, Tryd.ntmps4
            go_wp2_with fail
            (with_reducible refine (RM.out _).mono ?_); rintro e w1 ⟨rfl, b1⟩
            have B1 := Lib.hid (chain B0.out b1)
            clear b1
            go_wp2_with fail
            (with_reducible refine (all_any R B1.out hz1 l1.out).mono ?_); rintro e w2 ⟨v1, rfl, r1, b2⟩
            have B2 := Lib.hid (chain B1.out b2)
            have r1 : Row w2 _ _ 6 v1 ts1.length (tokX ts1) := r1
            rw [HL1.out] at r1
            obtain ⟨p1, c1, rfl, hc1, q1⟩ := row_view r1
            have Q1 := Lib.hid q1
            clear r1 b2 q1
            go_wp2_with fail
            (with_reducible refine (all_any R B2.out (by omega) l2.out).mono ?_); rintro e w3 ⟨v2, rfl, r2, b3⟩
            have B3 := Lib.hid (chain B2.out b3)
            have r2 : Row w3 _ _ 6 v2 ts2.length (tokX ts2) := r2
            rw [HL2.out] at r2
            obtain ⟨p2, c2, rfl, hc2, q2⟩ := row_view r2
            have Q2 := Lib.hid q2
            have K1 := Lib.hid b3
            clear r2 b3 q2
            go_wp2_with fail
            rw [GI.out]
            obtain ⟨g, hg, hrun⟩ := gap_run _ GG.out
            rw [hrun]
            have hgz : g.size ≤ 30 := (gap_first hg).2.2
            have hgz3 : (g.size : Int) ≤ 30 := by omega
            have hz3 : (a ++ g ++ b).size ≤ 65536 := by rw [ByteArray.size_append, ByteArray.size_append]; omega
            have HT := Lib.hid (HTS.out g hg)
            clear hg hrun HTS GI GG
            go_wp2_with fail
            (with_reducible refine (all_any R B3.out hz3 HT.out).mono ?_); rintro e w4 ⟨v3, rfl, r3, b4⟩
            have B4 := Lib.hid (chain B3.out b4)
            have r3 : Row w4 _ _ 6 v3 (ts1 ++ ts2.map (sh (a.size + g.size))).length (tokX (ts1 ++ ts2.map (sh (a.size + g.size)))) := r3
            rw [List.length_append, List.length_map, HL1.out, HL2.out] at r3
            obtain ⟨p3, c3, rfl, hc3, q3⟩ := row_view r3
            have Q3 := Lib.hid q3
            have K2 := Lib.hid b4
            clear r3 b4 q3 HT
            go_wp2_with fail
            have A3 := Lib.hid (K1.out.trans (K2.out.mono K1.out.size) : Below w2.heap.size w2 w4)
            go_loopw [83] (fun i wr => ∃ k : Nat, k ≤ n1 + n2 ∧ i = .int .i64 k ∧ Below w4.heap.size w4 wr) (fun i _ => n1 + n2 - (intOf i).toNat)
            case atStart => exact ⟨0, Nat.zero_le _, rfl, Below.refl _ _⟩
            case round =>
              obtain ⟨k, hk, rfl, bw⟩ := hrel
              have BW := Lib.hid bw
              clear bw
              by_cases hlt : k < n1 + n2
              · obtain ⟨g3, rfl, hg3, t3⟩ := Q3.out (by omega)
                have tt3 : ∀ (j : Nat) (v : Value), (tokX (ts1 ++ ts2.map (sh (a.size + g.size))))[j]? = some v → wr.cell? ⟨g3, j, none⟩ = some v := fun j v h => by rw [cell_keep BW.out hg3]; exact t3 j v h
                have hl3 : k < (ts1 ++ ts2.map (sh (a.size + g.size))).length := by rw [List.length_append, List.length_map, HL1.out, HL2.out]; exact hlt
                have z0 := tt3 _ _ (tok_at0 hl3)
                have z1 := tt3 _ _ (tok_at1 hl3)
                have z2 := tt3 _ _ (tok_at2 hl3)
                have z3 := tt3 _ _ (tok_at3 hl3)
                have z4 := tt3 _ _ (tok_at4 hl3)
                have z5 := tt3 _ _ (tok_at5 hl3)
                clear tt3 t3 hl3 hg3
                by_cases h1 : k < n1
                · obtain ⟨g1, rfl, hg1, t1⟩ := Q1.out (by omega)
                  have b24 := A3.out
                  have hg14 : g1 < w4.heap.size := Nat.lt_of_lt_of_le hg1 b24.size
                  have tt1 : ∀ (j : Nat) (v : Value), (tokX ts1)[j]? = some v → wr.cell? ⟨g1, j, none⟩ = some v := fun j v h => by rw [cell_keep BW.out hg14, cell_keep b24 hg1]; exact t1 j v h
                  have hl1 : k < ts1.length := by rw [HL1.out]; exact h1
                  have x0 := tt1 _ _ (tok_at0 hl1)
                  have x1 := tt1 _ _ (tok_at1 hl1)
                  have x2 := tt1 _ _ (tok_at2 hl1)
                  have x3 := tt1 _ _ (tok_at3 hl1)
                  have x4 := tt1 _ _ (tok_at4 hl1)
                  have x5 := tt1 _ _ (tok_at5 hl1)
                  rw [spaces_at0 hl1] at z0 z1 z2 z3 z4 z5
                  have hgw : g1 < wr.heap.size := Nat.lt_of_lt_of_le hg14 BW.out.size
                  clear b24 hg14 tt1 t1 hl1 hg1
                  generalize tokAt ts1 k = tk at *
                  obtain ⟨kd, tx, it, re, im, at5⟩ := tk
                  dsimp only at z0 z1 z2 z3 z4 z5 x0 x1 x2 x3 x4 x5
                  go_wp2_with fail
                  go_wp2
                  go_roundw
                  case rel => exact ⟨k + 1, by omega, by go_num, chain BW.out (chain (below_alloc _ _) (below_alloc _ _))⟩
                  case measure => simp [intOf]; omega
                · obtain ⟨j, rfl⟩ : ∃ j, k = n1 + j := ⟨k - n1, by omega⟩
                  have hj : j < n2 := by omega
                  obtain ⟨g2, rfl, hg2, t2⟩ := Q2.out (by omega)
                  have b34 := K2.out
                  have hg24 : g2 < w4.heap.size := Nat.lt_of_lt_of_le hg2 b34.size
                  have tt2 : ∀ (j : Nat) (v : Value), (tokX ts2)[j]? = some v → wr.cell? ⟨g2, j, none⟩ = some v := fun j v h => by rw [cell_keep BW.out hg24, cell_keep b34 hg2]; exact t2 j v h
                  have hl2 : j < ts2.length := by rw [HL2.out]; exact hj
                  have y0 := tt2 _ _ (tok_at0 hl2)
                  have y1 := tt2 _ _ (tok_at1 hl2)
                  have y2 := tt2 _ _ (tok_at2 hl2)
                  have y3 := tt2 _ _ (tok_at3 hl2)
                  have y4 := tt2 _ _ (tok_at4 hl2)
                  have y5 := tt2 _ _ (tok_at5 hl2)
                  obtain ⟨⟨ai, ea, has, _⟩, _⟩ := P2.out.1 j _ (tok_some hl2)
                  rw [spaces_at (by rw [HL1.out]; omega) (by rw [HL1.out, HL2.out]; exact hlt), show n1 + j - ts1.length = j by rw [HL1.out]; omega] at z0 z1 z2 z3 z4 z5
                  have hgw : g2 < wr.heap.size := Nat.lt_of_lt_of_le hg24 BW.out.size
                  have hia : ((ai : Nat) : Int) < (b.size : Int) := by omega
                  unfold sh at z0 z1 z2 z3 z4 z5
                  clear b34 hg24 tt2 t2 hl2 hg2 has
                  generalize tokAt ts2 j = tk at z0 z1 z2 z3 z4 z5 y0 y1 y2 y3 y4 y5 ea
                  obtain ⟨kd, tx, it, re, im, at5⟩ := tk
                  dsimp only at z0 z1 z2 z3 z4 z5 y0 y1 y2 y3 y4 y5 ea
                  subst ea
                  go_wp2_with fail
                  go_wp2
                  go_roundw
                  case rel => exact ⟨n1 + j + 1, by omega, by go_num, chain BW.out (chain (below_alloc _ _) (below_alloc _ _))⟩
                  case measure => simp [intOf]; omega
              · obtain rfl : k = n1 + n2 := by omega
                go_wp2_with fail
                (with_reducible refine (awake_calls _).mono ?_); rintro e w5 ⟨rfl, b5⟩
                have B5 := Lib.hid (chain (chain B4.out BW.out) b5)
                clear b5
                go_wp2_with fail
                go_ret
                exact ⟨rfl, B5.out⟩
          · have he2 : (L2.e == 0) = false := by simpa using he2
            go_enter Tryd.func4, Tryd.ntmps4
            go_wp2_with fail
            (with_reducible refine (RM.out _).mono ?_); rintro e w1 ⟨rfl, b1⟩
            have B1 := Lib.hid (chain B0.out b1)
            clear b1
            go_wp2_with fail
            (with_reducible refine (all_any R B1.out hz1 l1.out).mono ?_); rintro e w2 ⟨v1, rfl, r1, b2⟩
            have B2 := Lib.hid (chain B1.out b2)
            clear r1 b2
            go_wp2_with fail
            (with_reducible refine (all_any R B2.out (by omega) l2.out).mono ?_); rintro e w3 ⟨v2, rfl, r2, b3⟩
            have B3 := Lib.hid (chain B2.out b3)
            clear r2 b3
            go_wp2_with fail
            (with_reducible refine (awake_calls _).mono ?_); rintro e w5 ⟨rfl, b5⟩
            have B5 := Lib.hid (chain B3.out b5)
            clear b5
            go_wp2_with fail
            go_ret
            exact ⟨rfl, B5.out⟩
        · have he1 : (L1.e == 0) = false := by simpa using he1
          go_enter Tryd.func4, Tryd.ntmps4
          go_wp2_with fail
          (with_reducible refine (RM.out _).mono ?_); rintro e w1 ⟨rfl, b1⟩
          have B1 := Lib.hid (chain B0.out b1)
          clear b1
          go_wp2_with fail
          (with_reducible refine (all_any R B1.out hz1 l1.out).mono ?_); rintro e w2 ⟨v1, rfl, r1, b2⟩
          have B2 := Lib.hid (chain B1.out b2)
          clear r1 b2
          go_wp2_with fail
          (with_reducible refine (all_any R B2.out (by omega) l2.out).mono ?_); rintro e w3 ⟨v2, rfl, r2, b3⟩
          have B3 := Lib.hid (chain B2.out b3)
          clear r2 b3
          go_wp2_with fail
          (with_reducible refine (awake_calls _).mono ?_); rintro e w5 ⟨rfl, b5⟩
          have B5 := Lib.hid (chain B3.out b5)
          clear b5
          go_wp2_with fail
          go_ret
          exact ⟨rfl, B5.out⟩
    · have hb' : ¬ ((b.size : Int) ≤ 1000) := by omega
      go_enter Tryd.func4, Tryd.ntmps4
      go_wp2_with fail
      (with_reducible refine (awake_calls _).mono ?_); rintro e w3 ⟨rfl, b3⟩
      have B3 := Lib.hid (chain B0.out b3)
      clear b3
      go_wp2_with fail
      go_ret
      exact ⟨rfl, B3.out⟩
  · have ha' : ¬ ((a.size : Int) ≤ 1000) := by omega
    go_enter Tryd.func4, Tryd.ntmps4
    go_wp2_with fail
    (with_reducible refine (awake_calls _).mono ?_); rintro e w3 ⟨rfl, b3⟩
    have B3 := Lib.hid (chain B0.out b3)
    clear b3
    go_wp2_with fail
    go_ret
    exact ⟨rfl, B3.out⟩
theorem spaces_card (a b : ByteArray) (gap : Int) (W : World) (ha : a.size ≤ 140737488351232) (hb : b.size ≤ 140737488351232) (hg : (Lit.int .i64 gap).wf = true) (L : LaidW.Laid W) (hsh : W.ShapedOpen Tryd.prog) :
    Calls Tryd.prog 4 #[.string a, .string b, .int .i64 gap] W fun e w' => e = .returned (.bool true) ∧ Below W.heap.size W w' := by
  have h2 : -9223372036854775808 ≤ gap ∧ gap ≤ 9223372036854775807 := by
    simp only [Lit.wf, Bool.and_eq_true, decide_eq_true_eq] at hg
    exact hg
  exact spaces_walk a b gap W (ready_of L hsh) ha hb h2.1 h2.2
end Go.Proofs.YtenpnejkgopghaaDoor.Tok
