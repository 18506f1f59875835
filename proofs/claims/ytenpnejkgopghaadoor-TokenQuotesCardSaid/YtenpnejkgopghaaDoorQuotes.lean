/- Proved: for every text the call of TokenQuotes returns true, and nothing that was there is changed. Conditions: the library's variables hold what their texts lay in them; the world's shape. -/
import Derived.Test.YtenpnejkgopghaaDoorSc9
set_option linter.unusedVariables false
set_option linter.unusedSectionVars false
set_option linter.unusedSimpArgs false
set_option maxRecDepth 100000
namespace Go.Proofs.YtenpnejkgopghaaDoor.Tok
open Go Go.RowKit Go.Proofs.YtenpnejkgopghaaDoor.AK
noncomputable abbrev tqT : Code := tlC (tlC (tlC (tlC (codeOf Tryd.f9))))
/-- A row of tokens, as memory. -/
theorem trow_at [Gnd] {w : World} {B : Nat} {g n c : Nat} {ts : List T} (h : Row w B 33 6 (.slice (some ⟨g, 0, none⟩) n c) n (tokX ts)) (hw : ∀ x o, Gnd.obj x = some o → x < B ∧ w.heap[x]? = some o) (hn : n = ts.length := by rfl) : MemAt w B (trow (.st (.slice (some ⟨g, 0, none⟩) ts.length c)) ts) [] where
  blk := fun b hb => by cases hb
  row := fun r hr => by
    rcases List.mem_singleton.1 hr with rfl
    subst hn
    exact ⟨_, rfl, h⟩
  one := fun u hu => by cases hu
  bb := List.Pairwise.nil
  br := fun b hb => by cases hb
  rr := List.pairwise_singleton _ _
  ex := ⟨g, .inr ⟨_, List.mem_singleton.2 rfl, _, rfl, rfl⟩⟩
  gd := hw
set_option maxHeartbeats 6400000 in
theorem quotes_walk (s : ByteArray) (w : World) (R : Ready w) (hs : s.size ≤ 140737488351232) :
    Calls Tryd.prog 9 #[.string s] w fun e w' => e = .returned (.bool true) ∧ Below w.heap.size w w' := by
  have B0 := Lib.hid (Below.refl w.heap.size w)
  by_cases hs2 : s.size ≤ 200
  · have hs6 : s.size ≤ 60000 := by omega
    have hx := tl_beq s ⟨#[91, 93]⟩
    rw [show (⟨#[91, 93]⟩ : ByteArray).toList = [91, 93] by rw [ByteArray.toList_eq]] at hx
    cases h0 : (s == ⟨#[91, 93]⟩) with
    | true =>
      obtain rfl := (ba_beq _ _).1 h0
      rw [h0] at hx
      have hq : quoteB ⟨#[91, 93]⟩ = ⟨#[91, 93]⟩ := by
        have : plainB ⟨#[91, 93]⟩ = true := by unfold plainB; rw [h0]; rfl
        unfold quoteB; rw [if_pos this]
      have HQ := Lib.hid hq
      have LQ := Lib.hid lex_nil2
      clear hq h0
      go_enter Tryd.func9, Tryd.ntmps9
      go_wp2_with fail
      (with_reducible refine (quote_any R B0.out hs6).mono ?_); rintro e w1 ⟨rfl, b1⟩
      have B1 := Lib.hid (chain B0.out b1)
      clear b1
      rw [HQ.out]
      go_wp2_with fail
      (with_reducible refine (all_any R B1.out (by decide) LQ.out).mono ?_); rintro e w2 ⟨v, rfl, r2, b2⟩
      have r2 : Row w2 _ _ 6 v 2 _ := r2
      have B2 := Lib.hid (chain B1.out b2)
      obtain ⟨g1, c1, rfl, hc1, hb1, hg1, q1⟩ := row_cells r2 (by decide)
      have p1 := q1 1 _ rfl
      have p7 := q1 7 _ rfl
      clear b2 r2 q1 hb1 hg1
      go_wp2_with fail
      (with_reducible refine (awake_calls _).mono ?_); rintro e w6 ⟨rfl, b6⟩
      have B6 := Lib.hid (chain B2.out b6)
      clear b6
      go_wp2_with fail
      go_ret
      exact ⟨rfl, B6.out⟩
    | false =>
      rw [h0] at hx
      cases hpl : plainB s with
      | true =>
        have LQ := Lib.hid (plain_lex hpl h0)
        have HQ := Lib.hid (show quoteB s = s by unfold quoteB; rw [if_pos hpl])
        have hqs : s.size ≤ 65536 := by omega
        clear h0
        letI := gndOf w
        letI := Env.plain
        obtain ⟨T0, hT0⟩ : ∃ T0, T0 = tqT := ⟨_, rfl⟩
        have hb : Tryd.f9.body = some (.seq (hdC (codeOf Tryd.f9)) (.seq (hdC (tlC (codeOf Tryd.f9))) (.seq (hdC (tlC (tlC (codeOf Tryd.f9)))) (.seq (hdC (tlC (tlC (tlC (codeOf Tryd.f9))))) T0)))) := by
          rw [hT0]; kernel_rfl
        have e1 : hdC (codeOf Tryd.f9) = Code.region 0 _ false := rfl
        have e2 : hdC (tlC (codeOf Tryd.f9)) = Code.seq (.region 1 _ false) (.cond _ _ _) := rfl
        have e3 : hdC (tlC (tlC (codeOf Tryd.f9))) = Code.region 3 _ false := rfl
        have e4 : hdC (tlC (tlC (tlC (codeOf Tryd.f9)))) = Code.seq (.region 4 _ false) (.cond _ _ _) := rfl
        rw [e1, e2, e3, e4] at hb
        clear e1 e2 e3 e4
        refine (callsIn_wd (rd := none) (n := 0)).1 (callsIn_of_wp_marks Tryd.func9 hb trivial ?_)
        refine wpIn_wide.2 ?_
        simp only [Tryd.ntmps9, List.size_toArray, List.length_cons, List.length_nil, Nat.reduceAdd, Nat.reduceSub, Array.replicate_succ, Array.replicate_zero, List.push_toArray, List.append_toArray, List.nil_append, List.cons_append]
        clear hb
        go_wp2_with fail
        (with_reducible refine (quote_any R B0.out hs6).mono ?_); rintro e w1 ⟨rfl, b1⟩
        have B1 := Lib.hid (chain B0.out b1)
        clear b1
        rw [HQ.out]
        go_wp2_with fail
        (with_reducible refine (all_any R B1.out hqs LQ.out).mono ?_); rintro e w2 ⟨v, rfl, r2, b2⟩
        have r2 : Row w2 w1.heap.size _ 6 v 1 _ := r2
        have B2 := Lib.hid (chain B1.out b2)
        have G2 := Lib.hid (gnd_at B2.out)
        obtain ⟨g1, c1, rfl, hc1, hb1, hg1, q1⟩ := row_cells r2 (by decide)
        have hm := Lib.hid (trow_at (ts := tok1 1 s) (B := w1.heap.size) r2 (fun x o q => ⟨(gnd_at B1.out x o q).1, (G2.out x o q).2⟩))
        clear b2 r2 q1 hc1
        go_wp2_with fail
        refine wp_of_wd ?_
        rw [hT0]
        refine wpIn_mono ((((tqA (b := g1) (cc := c1) (gnd_ok R) hs2 hpl).1 rfl).1 ((ba_beq _ _).2 rfl)) w2.heap.size w2 _ _ _ (by omega) (MemTo.refl hm.out) ⟨?_, rfl, Nat.le_refl _, .nil⟩) ?_
        · repeat (first | exact .nil | refine .is ?_ | refine .any ?_)
        · rintro e a1 w3 ⟨S1, o1, ⟨rfl, rfl, rfl⟩, r1, r2⟩
          refine leave_mem hm.out (by omega) r1 r2 (v := .bool true) rfl fun w' h3 => ⟨rfl, ?_⟩
          exact (B2.out.trans ((h3.below hm.out (by omega)).mono B1.out.size))
      | false =>
        have LQ := Lib.hid (lex_quoted hs2)
        have HQ := Lib.hid (show quoteB s = quoteTo s 0 ⟨#[39]⟩ by unfold quoteB; rw [if_neg (by rw [hpl]; decide)])
        have hqs : (quoteTo s 0 ⟨#[39]⟩).size ≤ 65536 := by
          have := quoteTo_size s s.size 0 ⟨#[39]⟩ (by omega)
          have z : (⟨#[39]⟩ : ByteArray).size = 1 := rfl
          omega
        clear h0
        letI := gndOf w
        letI := Env.plain
        obtain ⟨T0, hT0⟩ : ∃ T0, T0 = tqT := ⟨_, rfl⟩
        have hb : Tryd.f9.body = some (.seq (hdC (codeOf Tryd.f9)) (.seq (hdC (tlC (codeOf Tryd.f9))) (.seq (hdC (tlC (tlC (codeOf Tryd.f9)))) (.seq (hdC (tlC (tlC (tlC (codeOf Tryd.f9))))) T0)))) := by
          rw [hT0]; kernel_rfl
        have e1 : hdC (codeOf Tryd.f9) = Code.region 0 _ false := rfl
        have e2 : hdC (tlC (codeOf Tryd.f9)) = Code.seq (.region 1 _ false) (.cond _ _ _) := rfl
        have e3 : hdC (tlC (tlC (codeOf Tryd.f9))) = Code.region 3 _ false := rfl
        have e4 : hdC (tlC (tlC (tlC (codeOf Tryd.f9)))) = Code.seq (.region 4 _ false) (.cond _ _ _) := rfl
        rw [e1, e2, e3, e4] at hb
        clear e1 e2 e3 e4
        refine (callsIn_wd (rd := none) (n := 0)).1 (callsIn_of_wp_marks Tryd.func9 hb trivial ?_)
        refine wpIn_wide.2 ?_
        simp only [Tryd.ntmps9, List.size_toArray, List.length_cons, List.length_nil, Nat.reduceAdd, Nat.reduceSub, Array.replicate_succ, Array.replicate_zero, List.push_toArray, List.append_toArray, List.nil_append, List.cons_append]
        clear hb
        go_wp2_with fail
        (with_reducible refine (quote_any R B0.out hs6).mono ?_); rintro e w1 ⟨rfl, b1⟩
        have B1 := Lib.hid (chain B0.out b1)
        clear b1
        rw [HQ.out]
        go_wp2_with fail
        (with_reducible refine (all_any R B1.out hqs LQ.out).mono ?_); rintro e w2 ⟨v, rfl, r2, b2⟩
        have r2 : Row w2 w1.heap.size _ 6 v 1 _ := r2
        have B2 := Lib.hid (chain B1.out b2)
        have G2 := Lib.hid (gnd_at B2.out)
        obtain ⟨g1, c1, rfl, hc1, hb1, hg1, q1⟩ := row_cells r2 (by decide)
        have hm := Lib.hid (trow_at (ts := tok1 2 s) (B := w1.heap.size) r2 (fun x o q => ⟨(gnd_at B1.out x o q).1, (G2.out x o q).2⟩))
        clear b2 r2 q1 hc1
        go_wp2_with fail
        refine wp_of_wd ?_
        rw [hT0]
        refine wpIn_mono ((((tqQ (b := g1) (cc := c1) (gnd_ok R) hs2 hpl).1 rfl).1 ((ba_beq _ _).2 rfl)) w2.heap.size w2 _ _ _ (by omega) (MemTo.refl hm.out) ⟨?_, rfl, Nat.le_refl _, .nil⟩) ?_
        · repeat (first | exact .nil | refine .is ?_ | refine .any ?_)
        · rintro e a1 w3 ⟨S1, o1, ⟨rfl, rfl, rfl⟩, r1, r2⟩
          refine leave_mem hm.out (by omega) r1 r2 (v := .bool true) rfl fun w' h3 => ⟨rfl, ?_⟩
          exact (B2.out.trans ((h3.below hm.out (by omega)).mono B1.out.size))
  · have hs' : ¬ ((s.size : Int) ≤ 200) := by omega
    go_enter Tryd.func9, Tryd.ntmps9
    go_wp2_with fail
    (with_reducible refine (awake_calls _).mono ?_); rintro e w3 ⟨rfl, b3⟩
    have B3 := Lib.hid (chain B0.out b3)
    clear b3
    go_wp2_with fail
    go_ret
    exact ⟨rfl, B3.out⟩
theorem quotes_card (s : ByteArray) (W : World) (hs : s.size ≤ 140737488351232) (L : LaidW.Laid W) (hsh : W.ShapedOpen Tryd.prog) :
    Calls Tryd.prog 9 #[.string s] W fun e w' => e = .returned (.bool true) ∧ Below W.heap.size W w' := quotes_walk s W (ready_of L hsh) hs
end Go.Proofs.YtenpnejkgopghaaDoor.Tok
