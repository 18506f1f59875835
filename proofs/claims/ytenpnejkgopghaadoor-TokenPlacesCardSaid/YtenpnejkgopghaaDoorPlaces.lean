/- Proved: for every text the call of TokenPlaces returns true, and nothing that was there is changed. Conditions: the library's variables hold what their texts lay in them; the world's shape. -/
import Derived.Test.YtenpnejkgopghaaDoorTop
import Derived.Test.YtenpnejkgopghaaDoorLow
import Derived.Test.YtenpnejkgopghaaDoorPlaceP
import Derived.WalkKit
import Derived.Deep.QuietTactic
import Derived.BigQuiet
set_option linter.unusedVariables false
set_option linter.unusedSectionVars false
set_option linter.unusedSimpArgs false
set_option maxRecDepth 100000
namespace Go.Proofs.YtenpnejkgopghaaDoor.Tok
open Go Go.RowKit Go.Proofs.YtenpnejkgopghaaDoor.AK
theorem cell_keep {w w' : World} {g k : Nat} (b : Below w.heap.size w w') (h : g < w.heap.size) : w'.cell? ⟨g, k, none⟩ = w.cell? ⟨g, k, none⟩ := by
  unfold World.cell?
  rw [b.block g h]
theorem row_nil {w : World} {B : Nat} {e : TypeId} {sz : Nat} {v : Value} {xs : List Value} (h : Row w B e sz v 0 xs) : ∃ a c, v = .slice a 0 c := by
  rcases h.2 with ⟨rfl, _⟩ | ⟨g, c, _, _, rfl, _⟩
  · exact ⟨_, _, rfl⟩
  · exact ⟨_, _, rfl⟩
theorem below_alloc (w : World) (o : Obj) : Below w.heap.size w (w.alloc o) := ⟨rfl, rfl, rfl, by rw [alloc_size]; omega, fun k hk => alloc_at w o hk⟩
theorem below_drewN_ {n : Nat} (w : World) (k : Nat) : Below n w (w.drewN k) := ⟨rfl, rfl, rfl, Nat.le_refl _, fun _ _ => rfl⟩
theorem chain {w w1 w2 : World} (a : Below w.heap.size w w1) (b : Below w1.heap.size w1 w2) : Below w.heap.size w w2 := a.trans (b.mono a.size)
set_option maxHeartbeats 3200000 in
theorem places_walk (s : ByteArray) (w : World) (R : Ready w) (hs : s.size ≤ 140737488351232) :
    Calls Tryd.prog 5 #[.string s] w fun e w' => e = .returned (.bool true) ∧ Below w.heap.size w w' := by
  have B0 := Lib.hid (Below.refl w.heap.size w)
  by_cases ha : s.size ≤ 3000
  · obtain ⟨L, hL⟩ : ∃ L, lexTo s 0 [] = L := ⟨_, rfl⟩
    have P := places_ok hL
    have hlen := lex_len (s := s) s.size 0 [] (by omega) (Nat.zero_le _) (Nat.zero_le _)
    rw [hL] at hlen
    by_cases he : L.e = 0
    · have l1 := Lib.hid hL
      have HP := Lib.hid P
      have HE := Lib.hid he
      clear hL P
      go_enter Tryd.func5, Tryd.ntmps5
      go_wp2_with fail
      (with_reducible refine (all_any R B0.out (by omega) l1.out).mono ?_); rintro e w1 ⟨v, rfl, r1, b1⟩
      have B1 := Lib.hid (chain B0.out b1)
      obtain ⟨ts, n, at_, hts, hn, hat⟩ : ∃ ts n at_, L.ts = ts ∧ ts.length = n ∧ L.at_ = at_ := ⟨_, _, _, rfl, rfl, rfl⟩
      rw [hts, hn] at r1
      rw [hts, hn] at hlen
      have hn3 : n ≤ 3000 := by omega
      rw [HE.out]
      by_cases h0 : n = 0
      · subst h0
        obtain ⟨a1, c1, rfl⟩ := row_nil r1
        clear r1 b1
        go_wp2_with fail
        go_loopw [6, 41] (fun z i wr => i = .int .i64 0 ∧ Below w1.heap.size w1 wr) (fun _ i _ => 0)
        case atStart => exact ⟨rfl, Below.refl _ _⟩
        case round =>
          obtain ⟨rfl, bw⟩ := hrel
          have BW := Lib.hid bw
          clear bw
          go_wp2_with fail
          (with_reducible refine (awake_calls _).mono ?_); rintro e w5 ⟨rfl, b5⟩
          have B5 := Lib.hid (chain (chain B1.out BW.out) b5)
          clear b5
          go_wp2_with fail
          go_ret
          exact ⟨rfl, B5.out⟩
      · obtain ⟨g, c, rfl, hc, hb, hg, q⟩ := row_cells r1 h0
        clear r1 b1
        go_wp2_with fail
        go_loopw [6, 41] (fun z i wr => ∃ (k : Nat) (p : Int), k ≤ n ∧ i = .int .i64 k ∧ z = .int .i64 p ∧ (∀ (j : Nat) (t : T), k ≤ j → ts[j]? = some t → p < t.at_) ∧ -1 ≤ p ∧ Below w1.heap.size w1 wr) (fun _ i _ => n - (intOf i).toNat)
        case atStart => exact ⟨0, -1, Nat.zero_le _, rfl, rfl, fun j t _ ht => by obtain ⟨⟨a, ha, _⟩, _⟩ := HP.out.1 j t (by rw [hts]; exact ht); omega, by omega, Below.refl _ _⟩
        case round =>
          obtain ⟨k, p, hk, rfl, rfl, hp, hp1, bw⟩ := hrel
          by_cases hlt : k < n
          · have q0 : wr.cell? ⟨g, k * 6, none⟩ = some (.int .i64 (tokAt ts k).kind) := by rw [cell_keep bw hg]; exact q _ _ (tok_at0 (by omega))
            have q1 : wr.cell? ⟨g, k * 6 + 1, none⟩ = some (.string (tokAt ts k).text) := by rw [cell_keep bw hg]; exact q _ _ (tok_at1 (by omega))
            have q2 : wr.cell? ⟨g, k * 6 + 2, none⟩ = some (.int .i64 (tokAt ts k).int) := by rw [cell_keep bw hg]; exact q _ _ (tok_at2 (by omega))
            have q3 : wr.cell? ⟨g, k * 6 + 3, none⟩ = some (.int .u64 (tokAt ts k).re) := by rw [cell_keep bw hg]; exact q _ _ (tok_at3 (by omega))
            have q4 : wr.cell? ⟨g, k * 6 + 4, none⟩ = some (.int .u64 (tokAt ts k).im) := by rw [cell_keep bw hg]; exact q _ _ (tok_at4 (by omega))
            have q5 : wr.cell? ⟨g, k * 6 + 5, none⟩ = some (.int .i64 (tokAt ts k).at_) := by rw [cell_keep bw hg]; exact q _ _ (tok_at5 (by omega))
            have hk2 : ts[k]? = some (tokAt ts k) := by
              unfold tokAt
              rw [List.getD_eq_getElem?_getD, List.getElem?_eq_getElem (by omega)]; rfl
            obtain ⟨⟨a, ea, has, hname, hopen, hend⟩, hrise⟩ := HP.out.1 k _ (by rw [hts]; exact hk2)
            have hpa := hp k _ (Nat.le_refl _) hk2
            have hnext : ∀ (j : Nat) (t : T), k + 1 ≤ j → ts[j]? = some t → ((a : Nat) : Int) < t.at_ := fun j t hj ht => by
              have := (HP.out.1 j t (by rw [hts]; exact ht)).2 k _ (by omega) (by rw [hts]; exact hk2)
              rw [← ea]; exact this
            obtain ⟨r, hr⟩ : ∃ r, s.extract a s.size = r := ⟨_, rfl⟩
            have hrz : r.size = s.size - a := by rw [← hr]; exact size_sub (by omega) (Nat.le_refl _)
            have hr0 : ∀ h : 0 < r.size, ((r[0]'h).toNat : Int) = ((at8 s a).toNat : Int) := fun h => by
              have := at8_ext (s := s) (i := a) (j := s.size) (k := 0) (by omega) (Nat.le_refl _)
              rw [hr, Nat.add_zero, at8_eq h] at this
              rw [this]
            have hrx : ∀ b, b ≤ s.size - a → r.extract 0 b = s.extract a (a + b) := fun b hb => by
              rw [← hr, sub_sub (by omega)]; rfl
            rw [ea] at q5 hpa
            generalize tokAt ts k = tk at q0 q1 q2 q3 q4 q5 hname hopen hend
            obtain ⟨kd, tx, it, re, im, at5⟩ := tk
            have HN := Lib.hid hname
            have HO := Lib.hid hopen
            have HEN := Lib.hid hend
            have HP1 := Lib.hid hnext
            have BW := Lib.hid bw
            have Q := Lib.hid q
            have HG := Lib.hid hg
            have HX := Lib.hid hrx
            have HR0 := Lib.hid hr0
            have hrz' := Lib.hid hrz
            have hrp : (0 : Int) < (r.size : Int) := by omega
            clear hp bw q hg hname hopen hend hnext hrise ea hk2 hrx hr0 hrz
            have fin : ∀ wq, Below wr.heap.size wr wq → ∃ (k' : Nat) (p : Int), k' ≤ n ∧ Value.int .i64 ((k : Int) + 1) = .int .i64 k' ∧ Value.int .i64 ((a : Nat) : Int) = .int .i64 p ∧ (∀ (j : Nat) (t : T), k' ≤ j → ts[j]? = some t → p < t.at_) ∧ -1 ≤ p ∧ Below w1.heap.size w1 wq := fun wq bq => ⟨k + 1, a, by omega, by go_num, rfl, HP1.out, by omega, chain BW.out bq⟩
            have FIN := Lib.hid fin
            clear fin
            by_cases hk1 : kd = 1 ∨ kd = 3 ∨ kd = 6
            · have h2 : a + tx.size ≤ s.size ∧ s.extract a (a + tx.size) = tx := HN.out hk1
              have hx : r.extract 0 tx.size = tx := by rw [HX.out _ (by have := h2.1; omega)]; exact h2.2
              have htz : (tx.size : Int) ≤ (r.size : Int) := by have := h2.1; have := hrz'.out; omega
              have htp : (0 : Int) ≤ (tx.size : Int) := by omega
              have hd : decide ((r.size : Int) < (tx.size : Int)) = false := by rw [decide_eq_false_iff_not]; omega
              have htz2 : tx.size ≤ r.size := by omega
              clear h2
              rcases hk1 with rfl | rfl | rfl
              all_goals
                go_wp2_with fail
                go_quiet (fail)
                go_wp2
                go_roundw
                case rel => exact FIN.out _ ((below_alloc _ _).trans (below_drewN_ _ _))
                case measure => simp [intOf]; omega
            · have n1 : ¬ kd = 1 := fun h => hk1 (.inl h)
              have n3 : ¬ kd = 3 := fun h => hk1 (.inr (.inl h))
              have n6 : ¬ kd = 6 := fun h => hk1 (.inr (.inr h))
              by_cases k7 : kd = 7
              · subst k7
                have h2 : (at8 s a).toNat = 40 ∧ tx = ⟨#[]⟩ := HO.out rfl
                have h3 := HR0.out
                rw [h2.1] at h3
                obtain rfl := h2.2
                clear h2 hk1
                go_wp2_with fail
                go_wp2
                go_roundw
                case rel => exact FIN.out _ (below_alloc _ _)
                case measure => simp [intOf]; omega
              · by_cases k8 : kd = 8
                · subst k8
                  have h2 : (at8 s a).toNat = 46 := HEN.out rfl
                  have h3 := HR0.out
                  rw [h2] at h3
                  clear h2 hk1
                  go_wp2_with fail
                  go_wp2
                  go_roundw
                  case rel => exact FIN.out _ (below_alloc _ _)
                  case measure => simp [intOf]; omega
                · clear hk1
                  go_wp2_with fail
                  go_wp2
                  go_roundw
                  case rel => exact FIN.out _ (below_alloc _ _)
                  case measure => simp [intOf]; omega
          · obtain rfl : k = n := by omega
            have BW := Lib.hid bw
            clear bw hp q
            go_wp2_with fail
            (with_reducible refine (awake_calls _).mono ?_); rintro e w5 ⟨rfl, b5⟩
            have B5 := Lib.hid (chain (chain B1.out BW.out) b5)
            clear b5
            go_wp2_with fail
            go_ret
            exact ⟨rfl, B5.out⟩
    · have l1 := Lib.hid hL
      obtain ⟨hts, hat, hpos⟩ := P.2 he
      have he2 : (L.e == 0) = false := by simpa using he
      have hat2 : ((L.at_ : Nat) : Int) < max 1 (s.size : Int) := by omega
      have hat3 : (0 : Int) ≤ ((L.at_ : Nat) : Int) := by omega
      clear hL P
      go_enter Tryd.func5, Tryd.ntmps5
      go_wp2_with fail
      (with_reducible refine (all_any R B0.out (by omega) l1.out).mono ?_); rintro e w1 ⟨v, rfl, r1, b1⟩
      have B1 := Lib.hid (chain B0.out b1)
      rw [hts] at r1
      obtain ⟨a1, c1, rfl⟩ := row_nil r1
      clear r1 b1
      go_wp2_with fail
      (with_reducible refine (awake_calls _).mono ?_); rintro e w5 ⟨rfl, b5⟩
      have B5 := Lib.hid (chain B1.out b5)
      clear b5
      go_wp2_with fail
      go_ret
      exact ⟨rfl, B5.out⟩
  · have ha' : ¬ ((s.size : Int) ≤ 3000) := by omega
    go_enter Tryd.func5, Tryd.ntmps5
    go_wp2_with fail
    (with_reducible refine (awake_calls _).mono ?_); rintro e w3 ⟨rfl, b3⟩
    have B3 := Lib.hid (chain B0.out b3)
    clear b3
    go_wp2_with fail
    go_ret
    exact ⟨rfl, B3.out⟩
theorem places_card (s : ByteArray) (W : World) (hs : s.size ≤ 140737488351232) (L : LaidW.Laid W) (hsh : W.ShapedOpen Tryd.prog) :
    Calls Tryd.prog 5 #[.string s] W fun e w' => e = .returned (.bool true) ∧ Below W.heap.size W w' := places_walk s W (ready_of L hsh) hs
end Go.Proofs.YtenpnejkgopghaaDoor.Tok
