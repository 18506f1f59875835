/- Proved: for every int64 and every two words the call of TokenNumbers returns true, and nothing that was there is changed. Conditions: the library's variables hold what their texts lay in them; the world's shape. -/
import Derived.Test.YtenpnejkgopghaaDoorTopB
import Derived.Test.YtenpnejkgopghaaDoorNumP
import Derived.Test.YtenpnejkgopghaaDoorHexT
import Derived.WalkKit
set_option linter.unusedVariables false
set_option linter.unusedSectionVars false
set_option linter.unusedSimpArgs false
set_option maxRecDepth 100000
namespace Go.Proofs.YtenpnejkgopghaaDoor.Tok
open Go Go.RowKit Go.Proofs.YtenpnejkgopghaaDoor.AK Go.Proofs.YtenpnejkgopghaaDoor.Form Go.Proofs.YtenpnejkgopghaaDoor.ParseC Go.Proofs.YtenpnejkgopghaaDoor.Put
set_option maxHeartbeats 6400000 in
theorem numbers_walk (n p q : Int) (w : World) (R : Ready w) (L : Libs w) (T : Hex.Tz w) (hn : -9223372036854775808 ≤ n ∧ n ≤ 9223372036854775807) (hp : 0 ≤ p ∧ p < 18446744073709551616) (hq : 0 ≤ q ∧ q < 18446744073709551616) :
    Calls Tryd.prog 7 #[.int .i64 n, .int .u64 p, .int .u64 q] w fun e w' => e = .returned (.bool true) ∧ Below w.heap.size w w' := by
  have B0 := Lib.hid (Below.refl w.heap.size w)
  have HL := Lib.hid L
  have HT := Lib.hid T
  have HN := Lib.hid hn
  have HP := Lib.hid hp
  have HQ := Lib.hid hq
  have HCZ := Lib.hid (show (strOfNums (textC p q)).size ≤ 65536 by rw [strOfNums_size]; simp [textC, hexs_length])
  have LC := Lib.hid (lex_cpx hp hq)
  obtain ⟨s, hs⟩ : ∃ s : ByteArray, (⟨(Lib.itoa n).toArray⟩ : ByteArray) = s := ⟨_, rfl⟩
  have hb : bs s = Lib.itoa n := by rw [← hs]
  have HS := Lib.hid hs
  have HSZ := Lib.hid (show s.size ≤ 65536 by rw [← bs_length, hb]; have := itoa_len n hn.1 hn.2; omega)
  clear L T hs hp hq
  by_cases h0 : 0 ≤ n
  · have LN := Lib.hid (lex_nat h0 hn.2 hb)
    clear hb
    go_enter Tryd.func7, Tryd.ntmps7
    go_wp2_with fail
    (with_reducible refine (reftext_any _ HN.out.1 HN.out.2 _ HL.out).mono ?_); rintro e w1 ⟨rfl, b1⟩
    have B1 := Lib.hid (Tok.chain B0.out b1)
    have T1 := Lib.hid (HT.out.below b1)
    clear b1
    rw [HS.out]
    go_wp2_with fail
    (with_reducible refine (all_any R B1.out HSZ.out LN.out).mono ?_); rintro e w3 ⟨v3, rfl, r3, b3⟩
    have r3 : Row w3 _ _ 6 v3 1 _ := r3
    obtain ⟨g3, c3, rfl, hc3, hb3, hg3, q3⟩ := row_cells r3 (by decide)
    have p0 := q3 0 _ rfl
    have p2 := q3 2 _ rfl
    have B3 := Lib.hid (Tok.chain B1.out b3)
    have T3 := Lib.hid (T1.out.below b3)
    have G3 := Lib.hid hg3
    clear b3 r3 q3 hb3 hg3
    go_wp2_with fail
    (with_reducible refine (Hex.reftextC_any p q HP.out HQ.out _ T3.out).mono ?_); rintro e w4 ⟨rfl, b4⟩
    have B4 := Lib.hid (Tok.chain B3.out b4)
    rw [← cell_keep b4 G3.out] at p0 p2
    have G4 := Lib.hid (Nat.lt_of_lt_of_le G3.out b4.size)
    clear b4
    go_wp2_with fail
    (with_reducible refine (all_any R B4.out HCZ.out LC.out).mono ?_); rintro e w5 ⟨v5, rfl, r5, b5⟩
    have r5 : Row w5 _ _ 6 v5 1 _ := r5
    obtain ⟨g5, c5, rfl, hc5, hb5, hg5, q5⟩ := row_cells r5 (by decide)
    have s0 := q5 0 _ rfl
    have s3 := q5 3 _ rfl
    have s4 := q5 4 _ rfl
    have B5 := Lib.hid (Tok.chain B4.out b5)
    rw [← cell_keep b5 G4.out] at p0 p2
    clear b5 r5 q5 hb5 hg5
    go_wp2_with fail
    (with_reducible refine (awake_calls _).mono ?_); rintro e w6 ⟨rfl, b6⟩
    have B6 := Lib.hid (Tok.chain B5.out b6)
    clear b6
    go_wp2_with fail
    go_ret
    exact ⟨rfl, B6.out⟩
  · have ln := lex_neg hn.1 (by omega) hb
    clear hb
    have h0' : n < 0 := by omega
    by_cases hm : n = -9223372036854775808
    · rw [if_pos hm] at ln
      have LN := Lib.hid ln
      subst hm
      have hwm : wrap64 9223372036854775808 = -9223372036854775808 := by unfold wrap64; omega
      clear ln h0 hn
      go_enter Tryd.func7, Tryd.ntmps7
      go_wp2_with fail
      (with_reducible refine (reftext_any _ HN.out.1 HN.out.2 _ HL.out).mono ?_); rintro e w1 ⟨rfl, b1⟩
      have B1 := Lib.hid (Tok.chain B0.out b1)
      have T1 := Lib.hid (HT.out.below b1)
      clear b1
      rw [HS.out]
      go_wp2_with fail
      (with_reducible refine (all_any R B1.out HSZ.out LN.out).mono ?_); rintro e w3 ⟨v3, rfl, r3, b3⟩
      have r3 : Row w3 _ _ 6 v3 2 _ := r3
      obtain ⟨g3, c3, rfl, hc3, hb3, hg3, q3⟩ := row_cells r3 (by decide)
      have p0 := q3 0 _ rfl
      have p1 := q3 1 _ rfl
      have p6 := q3 6 _ rfl
      have p8 := q3 8 _ rfl
      have B3 := Lib.hid (Tok.chain B1.out b3)
      have T3 := Lib.hid (T1.out.below b3)
      have G3 := Lib.hid hg3
      clear b3 r3 q3 hb3 hg3
      go_wp2_with fail
      (with_reducible refine (Hex.reftextC_any p q HP.out HQ.out _ T3.out).mono ?_); rintro e w4 ⟨rfl, b4⟩
      have B4 := Lib.hid (Tok.chain B3.out b4)
      rw [← cell_keep b4 G3.out] at p0 p1 p6 p8
      have G4 := Lib.hid (Nat.lt_of_lt_of_le G3.out b4.size)
      clear b4
      go_wp2_with fail
      (with_reducible refine (all_any R B4.out HCZ.out LC.out).mono ?_); rintro e w5 ⟨v5, rfl, r5, b5⟩
      have r5 : Row w5 _ _ 6 v5 1 _ := r5
      obtain ⟨g5, c5, rfl, hc5, hb5, hg5, q5⟩ := row_cells r5 (by decide)
      have s0 := q5 0 _ rfl
      have s3 := q5 3 _ rfl
      have s4 := q5 4 _ rfl
      have B5 := Lib.hid (Tok.chain B4.out b5)
      rw [← cell_keep b5 G4.out] at p0 p1 p6 p8
      clear b5 r5 q5 hb5 hg5
      go_wp2_with fail
      (with_reducible refine (awake_calls _).mono ?_); rintro e w6 ⟨rfl, b6⟩
      have B6 := Lib.hid (Tok.chain B5.out b6)
      clear b6
      go_wp2_with fail
      go_ret
      exact ⟨rfl, B6.out⟩
    · rw [if_neg hm] at ln
      have LN := Lib.hid ln
      have hm2 : -9223372036854775808 < n := by omega
      clear ln hm h0
      go_enter Tryd.func7, Tryd.ntmps7
      go_wp2_with fail
      (with_reducible refine (reftext_any _ HN.out.1 HN.out.2 _ HL.out).mono ?_); rintro e w1 ⟨rfl, b1⟩
      have B1 := Lib.hid (Tok.chain B0.out b1)
      have T1 := Lib.hid (HT.out.below b1)
      clear b1
      rw [HS.out]
      go_wp2_with fail
      (with_reducible refine (all_any R B1.out HSZ.out LN.out).mono ?_); rintro e w3 ⟨v3, rfl, r3, b3⟩
      have r3 : Row w3 _ _ 6 v3 2 _ := r3
      obtain ⟨g3, c3, rfl, hc3, hb3, hg3, q3⟩ := row_cells r3 (by decide)
      have p0 := q3 0 _ rfl
      have p1 := q3 1 _ rfl
      have p6 := q3 6 _ rfl
      have p8 := q3 8 _ rfl
      have B3 := Lib.hid (Tok.chain B1.out b3)
      have T3 := Lib.hid (T1.out.below b3)
      have G3 := Lib.hid hg3
      clear b3 r3 q3 hb3 hg3
      go_wp2_with fail
      (with_reducible refine (Hex.reftextC_any p q HP.out HQ.out _ T3.out).mono ?_); rintro e w4 ⟨rfl, b4⟩
      have B4 := Lib.hid (Tok.chain B3.out b4)
      rw [← cell_keep b4 G3.out] at p0 p1 p6 p8
      have G4 := Lib.hid (Nat.lt_of_lt_of_le G3.out b4.size)
      clear b4
      go_wp2_with fail
      (with_reducible refine (all_any R B4.out HCZ.out LC.out).mono ?_); rintro e w5 ⟨v5, rfl, r5, b5⟩
      have r5 : Row w5 _ _ 6 v5 1 _ := r5
      obtain ⟨g5, c5, rfl, hc5, hb5, hg5, q5⟩ := row_cells r5 (by decide)
      have s0 := q5 0 _ rfl
      have s3 := q5 3 _ rfl
      have s4 := q5 4 _ rfl
      have B5 := Lib.hid (Tok.chain B4.out b5)
      rw [← cell_keep b5 G4.out] at p0 p1 p6 p8
      clear b5 r5 q5 hb5 hg5
      go_wp2_with fail
      (with_reducible refine (awake_calls _).mono ?_); rintro e w6 ⟨rfl, b6⟩
      have B6 := Lib.hid (Tok.chain B5.out b6)
      clear b6
      go_wp2_with fail
      go_ret
      exact ⟨rfl, B6.out⟩
theorem numbers_card (n p q : Int) (W : World) (hn : (Lit.int .i64 n).wf = true) (hp : (Lit.int .u64 p).wf = true) (hq : (Lit.int .u64 q).wf = true) (L : LaidW.Laid W) (hsh : W.ShapedOpen Tryd.prog) :
    Calls Tryd.prog 7 #[.int .i64 n, .int .u64 p, .int .u64 q] W fun e w' => e = .returned (.bool true) ∧ Below W.heap.size W w' := by
  have u64 : ∀ x : Int, (Lit.int .u64 x).wf = true → 0 ≤ x ∧ x < 18446744073709551616 := fun x h => by
    simp only [Lit.wf, Bool.and_eq_true, decide_eq_true_eq] at h
    have e1 : IntKind.u64.min = 0 := rfl
    have e2 : IntKind.u64.max = 18446744073709551615 := rfl
    omega
  have hn2 : -9223372036854775808 ≤ n ∧ n ≤ 9223372036854775807 := by
    simp only [Lit.wf, Bool.and_eq_true, decide_eq_true_eq] at hn
    exact hn
  have hc := L.deBruijn64tab.cell (g := 3) (by kernel_rfl) 15 (by decide)
  refine numbers_walk n p q W (ready_of L hsh) ⟨by obtain ⟨a, s, h, _⟩ := L.ErrRange; exact ⟨_, _, h⟩, L.uint64pow10⟩ ⟨?_, hc⟩ hn2 (u64 p hp) (u64 q hq)
  rcases Nat.lt_or_ge 3 W.heap.size with h | h
  · exact h
  · unfold World.cell? at hc
    rw [Array.getElem?_eq_none h] at hc
    simp at hc
end Go.Proofs.YtenpnejkgopghaaDoor.Tok
